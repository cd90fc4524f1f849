/- The link's Double. -/
import Derived.Test.YtklillecmjooeaaProg
import Derived.Below
import Derived.Deep.Draws
import Derived.Deep.AppendLies
import Derived.Maps.AppendAt
import Derived.OwnWalk
import Derived.Laws.BytesArg
import Derived.Laws.MakeOwn
import Derived.Laws.OwnMore
import Derived.Deep.OwnRows
import Derived.Tactics
import Derived.Lib.ConvBytes
import Derived.Laws.Slices
import Derived.WalkKit
import Derived.KernelRfl
import Derived.RowKit3
import Derived.Deep.LoopGhost
import Derived.Deep.QuietTactic
import Derived.BigQuiet
import Derived.WideLaws
import Derived.Deep.DeepCutAuto
import Derived.Deep.CutBlock
import Derived.Deep.RegionHeld3
import Derived.Laws.Rows
import Derived.Lib.AppendStr
import Derived.ArgAppend
import Derived.Laws.IdiomCopy
import Derived.OrdersHeld
import Derived.Laws.BitsLemmas
import Derived.RowKit
import Derived.StillTailTactics
import Derived.Test.YtklillecmjooeaaWWords
import Derived.Test.YtklillecmjooeaaWLast
import Derived.Test.YtklillecmjooeaaWMore
import Derived.Lib.Hide
import Derived.Outline
import Derived.Test.YtklillecmjooeaaSend
import Derived.Test.YtklillecmjooeaaLook
namespace Go.Proofs.Ytklillecmjooeaa.Hand
open Go Go.RowKit Go.Proofs.Ytklillecmjooeaa.Plain Go.Proofs.Ytklillecmjooeaa.PAll Go.Proofs.YtklillecmjooeaaW.PrintWords Go.Proofs.YtklillecmjooeaaW.PrintLast Go.Proofs.YtklillecmjooeaaW.PrintMore
set_option linter.unusedVariables false
set_option linter.unusedSimpArgs false
set_option maxHeartbeats 1000000 in
set_option maxRecDepth 100000 in
theorem ldouble_none {w : World} {B g : Nat} (p : Int) (h : IsL w B g []) :
    Calls Try.prog 11 #[.pointer (some ⟨g, 0, none⟩), .int .i64 p] w fun e w' => e = .returned (.int .i64 6) ∧ w = w' := by
  have HA := Lib.hid (llook_none p h)
  clear h
  go_enter Try.func11, Try.ntmps11
  go_wp2_with (go_at_call 10; refine HA.out.mono ?_; rintro e w1 ⟨rfl, rfl⟩)
  go_ret
  exact ⟨rfl, rfl⟩
set_option maxHeartbeats 1000000 in
set_option maxRecDepth 100000 in
theorem ldouble_some {w : World} {B g : Nat} {ms : List S49} (p i : Int) (h : IsL w B g ms) (hml : ms.length ≤ 1000000) (hi : atL p ms.length = i) (h0i : 0 ≤ i) (h1i : i < ms.length) (hbl : (rd_T49 ms i).f0.length < 140737488355328) :
    Calls Try.prog 11 #[.pointer (some ⟨g, 0, none⟩), .int .i64 p] w fun e w' => e = .returned (.int .i64 (sendE (rd_T49 ms i).f0.length ms.length)) ∧ IsL w' B g (sendL ms (rd_T49 ms i).f0 (rd_T49 ms i).f1) ∧ Below B w w' ∧ CKeep w w' g := by
  have HA := Lib.hid (llook_some p i h hml hi h0i h1i hbl)
  obtain ⟨bs, hbs⟩ : ∃ bs, (rd_T49 ms i).f0 = bs := ⟨_, rfl⟩
  obtain ⟨sent, hsent⟩ : ∃ s, (rd_T49 ms i).f1 = s := ⟨_, rfl⟩
  rw [hbs, hsent] at HA
  rw [hbs] at hbl
  rw [hbs, hsent]
  obtain ⟨r, hr⟩ : ∃ r, sendE bs.length ms.length = r := ⟨_, rfl⟩
  obtain ⟨ms', hms'⟩ : ∃ r, sendL ms bs sent = r := ⟨_, rfl⟩
  have HW := Lib.hid h
  have HLE : Hid (B ≤ w.heap.size) := Lib.hid (by have := h.1; have := h.lt; omega)
  have HS : Hid (∀ (w1 : World) (v : Value), Kd.R (Kd.int .u8) 5 w1 w.heap.size (fun _ => True) v bs → Below w.heap.size w w1 → Calls Try.prog 8 #[.pointer (some ⟨g, 0, none⟩), v, .int .i64 sent] w1 fun e w' => e = .returned (.int .i64 r) ∧ IsL w' B g ms' ∧ Below B w w' ∧ CKeep w w' g) := Lib.hid fun w1 v hv hb => by
    obtain ⟨A, c, rfl, hc, hC⟩ := Kd.R_reads hv
    rw [← hr, ← hms']
    refine (lsend_calls A bs.length c bs sent (h.below hb) rfl hC hc hbl hml).mono ?_
    rintro e w2 ⟨rfl, h2, hb2, hk2⟩
    exact ⟨rfl, h2, (Below.mono hb HLE.out).trans hb2, ((CKeep.refl w g).below h.lt hb).trans hk2⟩
  rw [hr, hms']
  clear h hml hi h0i h1i hbl hbs hsent hr hms'
  go_enter Try.func11, Try.ntmps11
  go_wp2_with (first
    | (go_at_call 10; refine HA.out.mono ?_; clear HA; rintro e w1 ⟨v, rfl, hv, hb⟩; have HV := Lib.hid hv; have HB := Lib.hid hb; clear hv hb)
    | (go_at_call 8; refine (HS.out _ _ HV.out HB.out).mono ?_; clear HS; rintro e w2 ⟨rfl, h2, hb2, hk2⟩; have H2 := Lib.hid h2; have HB2 := Lib.hid hb2; have HK2 := Lib.hid hk2; clear h2 hb2 hk2))
  go_ret
  exact ⟨rfl, H2.out, HB2.out, HK2.out⟩
end Go.Proofs.Ytklillecmjooeaa.Hand
