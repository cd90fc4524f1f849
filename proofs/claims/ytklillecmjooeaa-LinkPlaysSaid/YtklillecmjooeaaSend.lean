/- The link's Send. -/
import Derived.Test.YtklillecmjooeaaProg
import Derived.Below
import Derived.Deep.Draws
import Derived.Deep.AppendLies
import Derived.Maps.AppendAt
import Derived.OwnWalk
import Derived.Laws.BytesArg
import Derived.Laws.MakeOwn
import Derived.Laws.OwnMore
import Derived.Deep.OwnRows
import Derived.Tactics
import Derived.Lib.ConvBytes
import Derived.Laws.Slices
import Derived.WalkKit
import Derived.KernelRfl
import Derived.RowKit3
import Derived.Deep.LoopGhost
import Derived.Deep.QuietTactic
import Derived.BigQuiet
import Derived.WideLaws
import Derived.Deep.DeepCutAuto
import Derived.Deep.CutBlock
import Derived.Deep.RegionHeld3
import Derived.Laws.Rows
import Derived.Lib.AppendStr
import Derived.ArgAppend
import Derived.Laws.IdiomCopy
import Derived.OrdersHeld
import Derived.Laws.BitsLemmas
import Derived.RowKit
import Derived.StillTailTactics
import Derived.Test.YtklillecmjooeaaWWords
import Derived.Test.YtklillecmjooeaaWLast
import Derived.Test.YtklillecmjooeaaWMore
import Derived.Lib.Hide
import Derived.Outline
import Derived.Deep.RegionLaw
import Derived.Deep.DrawnRows
import Derived.Test.YtklillecmjooeaaLink
namespace Go.Proofs.Ytklillecmjooeaa.Hand
open Go Go.RowKit Go.Proofs.Ytklillecmjooeaa.Plain Go.Proofs.Ytklillecmjooeaa.PAll Go.Proofs.YtklillecmjooeaaW.PrintWords Go.Proofs.YtklillecmjooeaaW.PrintLast Go.Proofs.YtklillecmjooeaaW.PrintMore
set_option linter.unusedVariables false
set_option linter.unusedSimpArgs false
attribute [local go_sem ↓] Go.wp_at_zero Go.wp_at_succ
def sendE (n m : Nat) : Int := if 200000 < n then 4 else if 64 ≤ m then 8 else 0
def sendL (ms : List S49) (bs : List Int) (now : Int) : List S49 := if 200000 < bs.length then ms else if 64 ≤ ms.length then ms else ms ++ [⟨bs, now⟩]
set_option maxHeartbeats 4000000 in
set_option maxRecDepth 100000 in
theorem lsend_calls {w : World} {B g : Nat} {ms : List S49} (A0 : Option Addr) (n0 c0 : Nat) (bs : List Int) (now : Int) (h : IsL w B g ms) (hn : n0 = bs.length) (hr0 : Kd.C (Kd.int .u8) w A0 bs.length bs) (hc0 : bs.length ≤ c0) (hbl : bs.length < 140737488355328) (hml : ms.length ≤ 1000000) :
    Calls Try.prog 8 #[.pointer (some ⟨g, 0, none⟩), .slice A0 n0 c0, .int .i64 now] w fun e w' => e = .returned (.int .i64 (sendE bs.length ms.length)) ∧ IsL w' B g (sendL ms bs now) ∧ Below B w w' ∧ CKeep w w' g := by
  have HW := Lib.hid h
  have HBL := Lib.hid hbl
  have HML := Lib.hid hml
  have HN := Lib.hid hn
  have hB : B ≤ g := h.1
  have HR0 := Lib.hid hr0
  have HC0 := Lib.hid hc0
  obtain ⟨hlt, A, c, ⟨h0, f0⟩, hg, hR⟩ := h.cells
  by_cases q1 : 200000 < n0
  · have hE : sendE bs.length ms.length = 4 := if_pos (by omega)
    have hL : sendL ms bs now = ms := if_pos (by omega)
    have b1 : decide ((200000 : Int) < (n0 : Int)) = true := decide_eq_true (by omega)
    rw [hE, hL]
    clear hE hL hn hr0 hc0 hbl hml h hg hR
    go_enter Try.func8, Try.ntmps8
    go_wp2
    go_ret
    exact ⟨rfl, HW.out, Below.refl _ _, CKeep.refl _ _⟩
  · have b1 : decide ((200000 : Int) < (n0 : Int)) = false := decide_eq_false (by omega)
    by_cases q2 : 64 ≤ ms.length
    · have hE : sendE bs.length ms.length = 8 := by unfold sendE; rw [if_neg (by omega), if_pos q2]
      have hL : sendL ms bs now = ms := by unfold sendL; rw [if_neg (by omega), if_pos q2]
      have b2 : decide ((64 : Int) ≤ (ms.length : Int)) = true := decide_eq_true (by omega)
      rw [hE, hL]
      clear hE hL hn hr0 hc0 hbl hml h hg hR
      go_enter Try.func8, Try.ntmps8
      go_wp2
      go_ret
      exact ⟨rfl, HW.out, Below.refl _ _, CKeep.refl _ _⟩
    · have hE : sendE bs.length ms.length = 0 := by unfold sendE; rw [if_neg (by omega), if_neg q2]
      have hL : sendL ms bs now = ms ++ [⟨bs, now⟩] := by unfold sendL; rw [if_neg (by omega), if_neg q2]
      have b2 : decide ((64 : Int) ≤ (ms.length : Int)) = false := decide_eq_false (by omega)
      have HG := Lib.hid hg
      have HR := Lib.hid hR
      have HKEEP := Lib.hid (show ∀ w1 : World, Below w.heap.size w w1 → w1.heap[g]? = some (.cells #[.slice A ms.length c] 46 (0, 0)) ∧ Kd.R k49 49 w1 B (fun _ => True) (.slice A ms.length c) ms ∧ w1.cell? ⟨g, 0, none⟩ = some (.slice A ms.length c) ∧ w1.frozen? ⟨g, 0, none⟩ = false from fun w1 hb => by
        have hg1 := (hb.block g hlt).trans hg
        exact ⟨hg1, Kd.R_below hR hb, by simp [World.cell?, hg1], by simp [World.frozen?, hg1]⟩)
      have HNEW := Lib.hid (show ∀ k, w.heap.size ≤ k → True ∧ some k ≠ (Value.slice A ms.length c).ownBlock from fun k hk => ⟨trivial, fun e => by have := Kd.R_lt hR k e.symm; omega⟩)
      have HLT := Lib.hid hlt
      have HLE := Lib.hid (show B ≤ w.heap.size by omega)
      have HB1LE : ∀ {w1 : World}, Below w.heap.size w w1 → B ≤ w1.heap.size := fun hb => Nat.le_trans HLE.out hb.size
      have HM : ∀ {w1 : World} {v : Value}, Kd.R (Kd.int .u8) 5 w1 w.heap.size (fun _ => True) v bs → Hid (k49.M w1 B (fun k => w.heap.size ≤ k) ⟨bs, now⟩ [v, .int .i64 now]) := fun hv => Lib.hid (k49_mkM _ _ _ _ (Kd.R_lower (Kd.R_mono (Kd.R_bound hv) (fun k hk => hk.2.1)) HLE.out))
      have HR0D := Lib.hid (Kd.C_below HR0.out (below_drew (Below.refl _ w)))
      have HQ2 := Lib.hid q2
      rw [hE, hL]
      clear hE hL hn hr0 hc0 hbl hml h hg hR q1 q2
      go_enter Try.func8, Try.ntmps8
      go_wp2_with fail
      go_region_law (first
           | (go_simp; go_at_call 17; refine (clone_calls A0 n0 c0 bs _ HN.out HR0D.out HC0.out HBL.out).mono ?_; rintro e w1 ⟨v1, rfl, hv1, hb1⟩; replace hb1 := below_of_drew hb1; obtain ⟨A1, c1, rfl⟩ := Kd.R_slice hv1; have HM1 := HM hv1; obtain ⟨hg1, hR1, h1, f1⟩ := HKEEP.out w1 hb1; have h1a := (HKEEP.out (w1.alloc (.cells #[.slice A1 bs.length c1, .int .i64 now] 49)) (below_alloc hb1 _)).2.2.1; have HB1 := Lib.hid hb1; have HG1 := Lib.hid hg1; have HR1 := Lib.hid hR1; clear hv1 hb1 hg1 hR1)
           | (refine Kd.R_append_step k49 (w0 := w) B (by rfl) (.tmp 20) (.tmp 25) 44 49 (.agg #[.slice none 0 0, .int .i64 0]) 32 (by rfl) Try.underlying44 infoM rfl (by decide) (by decide) (.slice A ms.length c) ms ⟨bs, now⟩ _ (fun _ => True) (fun k => w.heap.size ≤ k) (by rfl) (by rfl) HM1.out HNEW.out (fun _ _ => trivial) HR1.out (Below.mono HB1.out HLE.out) (HB1LE HB1.out) (by have := HML.out; omega) ?_; intro v2 w2 ho2 hb2 hg2 hat2; obtain ⟨A2, n2, c2, rfl, f2, h2, hW2, hB2, hK2⟩ := IsL.grown (w0 := w) hB HG1.out HR1.out ho2 hb2 hg2 hat2; have HW2 := Lib.hid hW2; have HB2 := Lib.hid hB2; have HK2 := Lib.hid hK2; clear ho2 hb2 hg2 hat2 hW2 hB2 hK2))
      all_goals ((try go_wp2); go_ret; exact ⟨rfl, HW2.out, HB2.out, ((CKeep.refl w g).below HLT.out HB1.out).trans HK2.out⟩)
end Go.Proofs.Ytklillecmjooeaa.Hand
