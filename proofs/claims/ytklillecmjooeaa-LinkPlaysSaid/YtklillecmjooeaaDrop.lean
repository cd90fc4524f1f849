/- The link's Drop. -/
import Derived.Test.YtklillecmjooeaaProg
import Derived.Below
import Derived.Deep.Draws
import Derived.Deep.AppendLies
import Derived.Maps.AppendAt
import Derived.OwnWalk
import Derived.Laws.BytesArg
import Derived.Laws.MakeOwn
import Derived.Laws.OwnMore
import Derived.Deep.OwnRows
import Derived.Tactics
import Derived.Lib.ConvBytes
import Derived.Laws.Slices
import Derived.WalkKit
import Derived.KernelRfl
import Derived.RowKit3
import Derived.Deep.LoopGhost
import Derived.Deep.QuietTactic
import Derived.BigQuiet
import Derived.WideLaws
import Derived.Deep.DeepCutAuto
import Derived.Deep.CutBlock
import Derived.Deep.RegionHeld3
import Derived.Laws.Rows
import Derived.Lib.AppendStr
import Derived.ArgAppend
import Derived.Laws.IdiomCopy
import Derived.OrdersHeld
import Derived.Laws.BitsLemmas
import Derived.RowKit
import Derived.StillTailTactics
import Derived.Test.YtklillecmjooeaaWWords
import Derived.Test.YtklillecmjooeaaWLast
import Derived.Test.YtklillecmjooeaaWMore
import Derived.Lib.Hide
import Derived.Outline
import Derived.Test.YtklillecmjooeaaTakeL
namespace Go.Proofs.Ytklillecmjooeaa.Hand
open Go Go.RowKit Go.Proofs.Ytklillecmjooeaa.Plain Go.Proofs.Ytklillecmjooeaa.PAll Go.Proofs.YtklillecmjooeaaW.PrintWords Go.Proofs.YtklillecmjooeaaW.PrintLast Go.Proofs.YtklillecmjooeaaW.PrintMore
set_option linter.unusedVariables false
set_option linter.unusedSimpArgs false
/-- A row that lies apart from the link stays, whatever the link does. -/
theorem R_ck {α : Type} {d : Kd α} {e : Nat} {w w1 : World} {g base : Nat} {v : Value} {xs : List α} (hR : Kd.R d e w base (fun k => k ≠ g ∧ some k ≠ rowAt w g) v xs) (h : CKeep w w1 g) : Kd.R d e w1 base (fun k => k ≠ g ∧ some k ≠ rowAt w1 g) v xs := by
  have h1 := Kd.R_bound hR
  refine Kd.R_mono (Kd.R_step h1 (fun k hk hlt => h.2.1 k hlt hk.1.1 hk.1.2)) (fun k hk => ⟨hk.1.1, fun e => ?_⟩)
  rcases h.2.2 with h2 | h2
  · rw [h2] at e
    exact hk.1.2 e
  · have := h2 k e.symm
    have := hk.2.2
    omega
set_option maxHeartbeats 1000000 in
set_option maxRecDepth 100000 in
theorem ldrop_none {w : World} {B g : Nat} (p : Int) (h : IsL w B g []) :
    Calls Try.prog 13 #[.pointer (some ⟨g, 0, none⟩), .int .i64 p] w fun e w' => e = .returned (.int .i64 6) ∧ w = w' := by
  have HA := Lib.hid (ltake_none p h)
  clear h
  go_enter Try.func13, Try.ntmps13
  go_wp2_with (go_at_call 9; refine HA.out.mono ?_; rintro e w1 ⟨rfl, rfl⟩)
  go_ret
  exact ⟨rfl, rfl⟩
set_option maxHeartbeats 1000000 in
set_option maxRecDepth 100000 in
theorem ldrop_some {w : World} {B g : Nat} {ms : List S49} (p i : Int) (h : IsL w B g ms) (hml : ms.length ≤ 1000000) (hi : atL p ms.length = i) (h0i : 0 ≤ i) (h1i : i < ms.length) :
    Calls Try.prog 13 #[.pointer (some ⟨g, 0, none⟩), .int .i64 p] w fun e w' => e = .returned (.int .i64 0) ∧ IsL w' B g (ms.eraseIdx i.toNat) ∧ Below B w w' ∧ CKeep w w' g := by
  have HA := Lib.hid (ltake_some p i h hml hi h0i h1i)
  obtain ⟨ms', hms'⟩ : ∃ m, ms.eraseIdx i.toNat = m := ⟨_, rfl⟩
  obtain ⟨bs, hbs⟩ : ∃ bs, (rd_T49 ms i).f0 = bs := ⟨_, rfl⟩
  rw [hms', hbs] at HA
  rw [hms']
  clear h hml hi h0i h1i hms' hbs
  go_enter Try.func13, Try.ntmps13
  go_wp2_with (go_at_call 9; refine HA.out.mono ?_; clear HA; rintro e w1 ⟨v, rfl, hv, h1, h2, h3⟩; have H1 := Lib.hid h1; have H2 := Lib.hid h2; have H3 := Lib.hid h3; clear hv h1 h2 h3)
  go_ret
  exact ⟨rfl, H1.out, H2.out, H3.out⟩
end Go.Proofs.Ytklillecmjooeaa.Hand
