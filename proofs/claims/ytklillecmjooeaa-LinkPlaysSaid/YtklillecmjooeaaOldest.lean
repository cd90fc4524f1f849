/- The link's Oldest. -/
import Derived.Test.YtklillecmjooeaaProg
import Derived.Below
import Derived.Deep.Draws
import Derived.Deep.AppendLies
import Derived.Maps.AppendAt
import Derived.OwnWalk
import Derived.Laws.BytesArg
import Derived.Laws.MakeOwn
import Derived.Laws.OwnMore
import Derived.Deep.OwnRows
import Derived.Tactics
import Derived.Lib.ConvBytes
import Derived.Laws.Slices
import Derived.WalkKit
import Derived.KernelRfl
import Derived.RowKit3
import Derived.Deep.LoopGhost
import Derived.Deep.QuietTactic
import Derived.BigQuiet
import Derived.WideLaws
import Derived.Deep.DeepCutAuto
import Derived.Deep.CutBlock
import Derived.Deep.RegionHeld3
import Derived.Laws.Rows
import Derived.Lib.AppendStr
import Derived.ArgAppend
import Derived.Laws.IdiomCopy
import Derived.OrdersHeld
import Derived.Laws.BitsLemmas
import Derived.RowKit
import Derived.StillTailTactics
import Derived.Test.YtklillecmjooeaaWWords
import Derived.Test.YtklillecmjooeaaWLast
import Derived.Test.YtklillecmjooeaaWMore
import Derived.Lib.Hide
import Derived.Outline
import Derived.Deep.RegionLaw
import Derived.Deep.DrawnRows
import Derived.Test.YtklillecmjooeaaLink
namespace Go.Proofs.Ytklillecmjooeaa.Hand
open Go Go.RowKit Go.Proofs.Ytklillecmjooeaa.Plain Go.Proofs.Ytklillecmjooeaa.PAll Go.Proofs.YtklillecmjooeaaW.PrintWords Go.Proofs.YtklillecmjooeaaW.PrintLast Go.Proofs.YtklillecmjooeaaW.PrintMore
set_option linter.unusedVariables false
set_option linter.unusedSimpArgs false
attribute [local go_sem ↓] Go.wp_at_zero Go.wp_at_succ
/-- The first least of the first k. -/
def bestTo (f : Nat → Int) : Nat → Nat
  | 0 => 0
  | k + 1 => if f k < f (bestTo f k) then k else bestTo f k
theorem bestTo_lt (f : Nat → Int) : ∀ {k : Nat}, 0 < k → bestTo f k < k
  | 0, h => by omega
  | k + 1, _ => by
    unfold bestTo
    split
    · omega
    · rcases Nat.eq_zero_or_pos k with h | h
      · subst h; simp [bestTo]
      · have := bestTo_lt f h; omega
theorem bestTo_lt' (f : Nat → Int) {k n : Nat} (h0 : 0 < n) (hk : k ≤ n) : bestTo f k < n := by
  rcases Nat.eq_zero_or_pos k with h | h
  · subst h; exact h0
  · have := bestTo_lt f h; omega
theorem meas_lt {n j : Nat} (h : wrap64 ((j : Int) + 1) = ((j + 1 : Nat) : Int)) (hlt : (j : Int) < n) : ((n : Int) - intOf (.int .i64 (wrap64 ((j : Int) + 1)))).toNat < ((n : Int) - intOf (.int .i64 (j : Int))).toNat := by
  rw [h]
  simp only [intOf]
  omega
def sentOf (ms : List S49) (j : Nat) : Int := (rd_T49 ms j).f1
set_option maxHeartbeats 1000000 in
set_option maxRecDepth 100000 in
theorem loldest_none {w : World} {B g : Nat} (h : IsL w B g []) :
    Calls Try.prog 23 #[.pointer (some ⟨g, 0, none⟩)] w fun e w' => e = .returned (.tuple #[.int .i64 0, .int .i64 0, .int .i64 6]) ∧ w = w' := by
  obtain ⟨hlt, A, c, ⟨h0, f0⟩, _, _⟩ := h.cells
  clear h
  simp only [List.length_nil] at h0
  go_enter Try.func23, Try.ntmps23
  go_wp2
  go_ret3
  exact ⟨rfl, rfl⟩
set_option maxHeartbeats 4000000 in
set_option maxRecDepth 100000 in
theorem loldest_some {w : World} {B g : Nat} {ms : List S49} (h : IsL w B g ms) (hp : 0 < ms.length) (hml : ms.length ≤ 1000000) :
    Calls Try.prog 23 #[.pointer (some ⟨g, 0, none⟩)] w fun e w' => e = .returned (.tuple #[.int .i64 (bestTo (sentOf ms) ms.length), .int .i64 (sentOf ms (bestTo (sentOf ms) ms.length)), .int .i64 0]) ∧ Below w.heap.size w w' := by
  obtain ⟨hlt, A, c, ⟨h0, f0⟩, hg, hR⟩ := h.cells
  obtain ⟨_, _, hC⟩ := Kd.R_reads' hR
  obtain ⟨ad, _, _, rfl, _⟩ := at_T49 hC 0 (by omega) (by omega)
  have HC : Hid (∀ (wr : World) (j : Nat), Below w.heap.size w wr → j < ms.length → wr.cell? ⟨g, 0, none⟩ = some (.slice (some ad) ms.length c) ∧ (∃ A0 n0 c0, wr.cell? (ad.add (j * 2)) = some (.slice A0 n0 c0)) ∧ wr.cell? ⟨(ad.add (j * 2)).block, (ad.add (j * 2)).off + 1, none⟩ = some (.int .i64 (sentOf ms j))) := Lib.hid fun wr j hb hj => by
    obtain ⟨ad', A0, c0, e, x0, x1, _, _⟩ := at_T49 hC j (by omega) (by omega)
    injection e with e
    subst e
    rw [Int.toNat_natCast] at x0 x1
    exact ⟨(hb.cell (World.block_lt_of_cell? w _ h0)).trans h0, ⟨A0, _, c0, (hb.cell (World.block_lt_of_cell? w _ x0)).trans x0⟩, (hb.cell (World.block_lt_of_cell? w _ x1)).trans x1⟩
  obtain ⟨f, hf⟩ : ∃ f, sentOf ms = f := ⟨_, rfl⟩
  rw [hf] at HC ⊢
  obtain ⟨n, hn⟩ : ∃ n, ms.length = n := ⟨_, rfl⟩
  rw [hn] at h0 HC hp hml ⊢
  have e0 : ((n : Int) = 0) = False := eq_false (by omega)
  have e1 : (n = 0) = False := eq_false (by omega)
  have HP := Lib.hid hp
  have HM := Lib.hid hml
  obtain ⟨M, hM⟩ : ∃ M, bestTo f n = M := ⟨_, rfl⟩
  rw [hM]
  have HM2 := Lib.hid hM
  clear hf hn hg hR hC h hml hM
  go_enter Try.func23, Try.ntmps23
  go_wp2_with fail
  go_loopw [5, 19] (fun b i wr => ∃ j : Nat, j ≤ n ∧ i = .int .i64 j ∧ b = .int .i64 (bestTo f j) ∧ Hid (Below w.heap.size w wr)) (fun _ i _ => ((n : Int) - intOf i).toNat)
  case atStart => exact ⟨0, by omega, rfl, rfl, Lib.hid (Below.refl _ _)⟩
  case round =>
    obtain ⟨j, hj, rfl, rfl, HB⟩ := hrel
    by_cases hlt2 : (j : Int) < n
    · have hbl := bestTo_lt' f HP.out hj
      obtain ⟨m, hm⟩ : ∃ m, bestTo f j = m := ⟨_, rfl⟩
      rw [hm] at hbl ⊢
      obtain ⟨y0, ⟨A0, n0, c0, y1⟩, y2⟩ := HC.out wr j HB.out (by omega)
      have HB2 := Lib.hid (below_alloc HB.out (.cells #[.slice A0 n0 c0, .int .i64 (f j)] 49))
      obtain ⟨z0, _, z2⟩ := HC.out (wr.alloc (.cells #[.slice A0 n0 c0, .int .i64 (f j)] 49)) m HB2.out hbl
      have hml : (m : Int) < n := by omega
      have wj : wrap64 ((j : Int) + 1) = ((j + 1 : Nat) : Int) := (wrap64_id (by omega) (by have := HM.out; omega)).trans (by simp)
      clear HC
      by_cases hlss : f j < f m
      · have hb1 : bestTo f (j + 1) = j := by unfold bestTo; rw [hm, if_pos hlss]
        have HB1 := Lib.hid hb1
        have d1 : decide (f j < f m) = true := decide_eq_true hlss
        clear hlss hb1 hbl hm
        go_wp2_with fail
        go_quiet (fail)
        go_wp2
        go_roundw
        case rel => exact ⟨j + 1, by omega, by first | rw [wj] | simp, by rw [HB1.out], Lib.hid (pw_below_drewN HB2.out _)⟩
        case measure => exact meas_lt wj hlt2
      · have hb1 : bestTo f (j + 1) = m := by unfold bestTo; rw [hm, if_neg hlss]
        have HB1 := Lib.hid hb1
        have d1 : decide (f j < f m) = false := decide_eq_false hlss
        clear hlss hb1 hbl hm
        go_wp2_with fail
        go_quiet (fail)
        go_wp2
        go_roundw
        case rel => exact ⟨j + 1, by omega, by first | rw [wj] | simp, by rw [HB1.out], Lib.hid (pw_below_drewN HB2.out _)⟩
        case measure => exact meas_lt wj hlt2
    · have hjn : j = n := by omega
      have hbl := bestTo_lt' f HP.out (Nat.le_refl n)
      rw [hjn, HM2.out]
      rw [HM2.out] at hbl
      obtain ⟨y0, _, y2⟩ := HC.out wr M HB.out hbl
      have hml : (M : Int) < n := by omega
      clear HC hbl hjn hlt2 hj
      go_wp2_with fail
      go_quiet (fail)
      go_wp2
      go_ret3
      exact ⟨rfl, pw_below_drewN HB.out _⟩
end Go.Proofs.Ytklillecmjooeaa.Hand
