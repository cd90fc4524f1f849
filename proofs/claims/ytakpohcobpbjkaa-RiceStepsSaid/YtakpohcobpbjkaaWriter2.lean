/- The bit writer's methods over rows of bits. -/
import Derived.Test.YtakpohcobpbjkaaProg
import Derived.Below
import Derived.Deep.Draws
import Derived.Deep.AppendLies
import Derived.Maps.AppendAt
import Derived.OwnWalk
import Derived.Laws.BytesArg
import Derived.Laws.MakeOwn
import Derived.Laws.OwnMore
import Derived.Deep.OwnRows
import Derived.Tactics
import Derived.Lib.ConvBytes
import Derived.Laws.Slices
import Derived.WalkKit
import Derived.KernelRfl
import Derived.RowKit3
import Derived.Deep.LoopGhost
import Derived.Deep.QuietTactic
import Derived.BigQuiet
import Derived.WideLaws
import Derived.Deep.DeepCutAuto
import Derived.Deep.CutBlock
import Derived.Deep.RegionHeld3
import Derived.Laws.Rows
import Derived.Lib.AppendStr
import Derived.ArgAppend
import Derived.Laws.IdiomCopy
import Derived.OrdersHeld
import Derived.Laws.BitsLemmas
import Derived.RowKit
import Derived.StillTailTactics
import Derived.Test.YtakpohcobpbjkaaWWords
import Derived.Test.YtakpohcobpbjkaaWLast
import Derived.Test.YtakpohcobpbjkaaWMore
import Derived.Lib.Hide
import Derived.Outline
import Derived.Test.YtakpohcobpbjkaaWriter
namespace Go.Proofs.Ytakpohcobpbjkaa.Hand
open Go Go.RowKit Go.Proofs.Ytakpohcobpbjkaa.Plain Go.Proofs.YtakpohcobpbjkaaW.PrintWords Go.Proofs.YtakpohcobpbjkaaW.PrintLast Go.Proofs.YtakpohcobpbjkaaW.PrintMore
attribute [local go_sem] max2_int min2_int max_two min_two max_three min_three max_four min_four
set_option linter.unusedVariables false
set_option linter.unusedSimpArgs false
theorem shr_nat (n k : Nat) : (n : Int) / 2 ^ k = ((n / 2 ^ k : Nat) : Int) := by simp
theorem shr_odd (n k : Nat) : decide ((n : Int) / 2 ^ k % 2 = 1) = decide (n / 2 ^ k % 2 = 1) := by
  rw [shr_nat]
  by_cases h : n / 2 ^ k % 2 = 1
  · rw [decide_eq_true h, decide_eq_true (by omega)]
  · rw [decide_eq_false h, decide_eq_false (by omega)]
/-- A writer at block g in which these bits were put. -/
def IsB (w : World) (B g : Nat) (l : List Bool) : Prop := IsW w B g (pk l) (l.length : Int)
theorem IsB.below {w w' : World} {B g : Nat} {l : List Bool} (h : IsB w B g l) (hb : Below w.heap.size w w') : IsB w' B g l := by
  have hlt := h.cells.1
  obtain ⟨hB, v, hg, hR⟩ := h
  exact ⟨hB, v, (hb.block g hlt).trans hg, Kd.R_below hR hb⟩
theorem IsB.drew {w : World} {B g : Nat} {l : List Bool} (h : IsB w B g l) : IsB w.drew B g l := IsW.drew h
theorem IsB.drewN {w : World} {B g : Nat} {l : List Bool} (h : IsB w B g l) (n : Nat) : IsB (w.drewN n) B g l := by
  obtain ⟨hB, v, hg, hR⟩ := h
  exact ⟨hB, v, hg, Kd.R_drewN hR n⟩
theorem IsB.alloc {w : World} {B g : Nat} {l : List Bool} (h : IsB w B g l) (o : Obj) : IsB (w.alloc o) B g l := h.below (below_alloc (Below.refl _ _) o)
theorem new_calls (w : World) : Calls Try.prog 12 #[] w fun e w' => e = .returned (.pointer (some ⟨w.heap.size, 0, none⟩)) ∧ IsB w' w.heap.size w.heap.size [] ∧ Below w.heap.size w w' := by
  go_enter Try.func12, Try.ntmps12
  go_wp2
  go_ret
  exact ⟨rfl, ⟨Nat.le_refl _, _, by simpa using heap_alloc_new w _, Kd.R_nil _ _ _ _ _⟩, below_alloc (Below.refl _ _) _⟩
theorem one_bits {w : World} {B g : Nat} {l : List Bool} (x : Int) (h : IsB w B g l) (hx0 : 0 ≤ x) (hx1 : x < 18446744073709551616) (hl : l.length ≤ 1000000000) :
    Calls Try.prog 38 #[.pointer (some ⟨g, 0, none⟩), .int .u64 x] w fun e w' => e = .returned (.tuple #[]) ∧ IsB w' B g (l ++ [decide (x % 2 = 1)]) ∧ Below B w w' ∧ KeepsT w w' g := by
  refine (one_calls x h (by omega) (by omega) (by rw [pk_length]; omega)).mono fun e w' hh => ?_
  obtain ⟨he, hw, hb, hk⟩ := hh
  refine ⟨he, ?_, hb, hk⟩
  unfold IsB
  rw [put1_tells l x hx0 hx1] at hw
  simpa using hw
theorem len_bits {w : World} {B g : Nat} {l : List Bool} (h : IsB w B g l) : Calls Try.prog 15 #[.pointer (some ⟨g, 0, none⟩)] w fun e w' => e = .returned (.int .i64 l.length) ∧ w = w' := len_calls h
theorem bytes_bits {w : World} {B g : Nat} {l : List Bool} (h : IsB w B g l) (hl : l.length ≤ 1000000000) :
    Calls Try.prog 16 #[.pointer (some ⟨g, 0, none⟩)] w fun e w' => ∃ v : Value, e = .returned v ∧ Kd.R (Kd.int .u8) 5 w' w.heap.size (fun _ => True) v (pk l) ∧ Below w.heap.size w w' := by
  obtain ⟨hlt, A, c, ⟨h0, h1, _, _⟩, _, hR⟩ := h.cells
  obtain ⟨_, _, he, hc, hC⟩ := Kd.R_reads hR
  injection he with ha _ hcc
  subst ha hcc
  have HC := Lib.hid hC
  have HCL := Lib.hid hc
  have HN : (pk l).length < 140737488355328 := by rw [pk_length]; omega
  clear hR hC hc h1 hl
  go_enter Try.func16, Try.ntmps16
  go_wp2_with (go_at_call 31; refine (clone_calls A _ c (pk l) _ rfl HC.out HCL.out HN).mono ?_; rintro e w1 ⟨v, rfl, hv, hb⟩; have HV := Lib.hid hv; have HB := Lib.hid hb; clear hv hb)
  go_ret
  exact ⟨_, rfl, HV.out, HB.out⟩
set_option maxHeartbeats 1000000 in
set_option maxRecDepth 100000 in
theorem put_bits {w : World} {B g : Nat} {l : List Bool} (n : Nat) (a : Int) (h : IsB w B g l) (hn : n < 18446744073709551616) (hl : l.length ≤ 900000000) :
    Calls Try.prog 28 #[.pointer (some ⟨g, 0, none⟩), .int .u64 n, .int .i64 a] w fun e w' => e = .returned (.tuple #[]) ∧ IsB w' B g (l ++ bitsOf n (mn (mx a 0) 64).toNat) ∧ Below B w w' ∧ KeepsT w w' g := by
  obtain ⟨k, hk, hk0, hk64⟩ : ∃ k : Int, mn (mx a 0) 64 = k ∧ 0 ≤ k ∧ k ≤ 64 := ⟨_, rfl, by unfold mn mx; repeat' split <;> omega, by unfold mn mx; repeat' split <;> omega⟩
  obtain ⟨m, hm⟩ : ∃ m : Int, mx a 0 = m := ⟨_, rfl⟩
  have em : (if a < 0 then 0 else a) = m := hm
  rw [hm] at hk
  have ek : (if 64 < m then 64 else m) = k := hk
  rw [hm, hk]
  have HW0 := Lib.hid h
  have HK := Lib.hid hk
  have HM := Lib.hid hm
  have HL := Lib.hid hl
  clear h hk hm hl
  go_enter Try.func28, Try.ntmps28
  go_wp2
  go_loopw [6] (fun v wr => ∃ d : Int, -1 ≤ d ∧ d ≤ 63 ∧ v = .int .i64 d ∧ Hid (∃ done, IsB wr B g (l ++ done) ∧ done ++ bitsOf n (d + 1).toNat = bitsOf n k.toNat ∧ Below B w wr ∧ KeepsT w wr g)) (fun v _ => (intOf v + 1).toNat)
  case atStart => exact ⟨k - 1, by omega, by omega, rfl, Lib.hid ⟨[], by simpa using HW0.out, by rw [Int.sub_add_cancel]; rfl, Below.refl _ _, KeepsT.refl _ _⟩⟩
  case round =>
    obtain ⟨d, hd0, hd1, rfl, H⟩ := hrel
    clear em ek
    obtain ⟨done, hw, he, hb, hkk⟩ := H.out
    clear H
    have HW := Lib.hid hw
    have HE := Lib.hid he
    have HB := Lib.hid hb
    have HKK := Lib.hid hkk
    clear hkk
    by_cases hd : 0 ≤ d
    · have hlen : (l ++ done).length ≤ 1000000000 := by
        have h1 := congrArg List.length he
        simp only [List.length_append, bitsOf_length] at h1 ⊢
        have := HL.out
        omega
      have hx0 : 0 ≤ (n : Int) / 2 ^ d.toNat := by rw [shr_nat]; exact Int.natCast_nonneg _
      have hx1 : (n : Int) / 2 ^ d.toNat < 18446744073709551616 := by
        rw [shr_nat]
        have := Nat.div_le_self n (2 ^ d.toNat)
        omega
      have HLN := Lib.hid hlen
      have HX := Lib.hid (And.intro hx0 hx1)
      clear hw he hb hlen hx0 hx1
      go_wp2_with (go_at_call 38; refine (one_bits _ HW.out HX.out.1 HX.out.2 HLN.out).mono ?_; rintro e w1 ⟨rfl, hw1, hb1, hk1⟩; have HW1 := Lib.hid hw1; have HB1 := Lib.hid hb1; have HK1 := Lib.hid hk1; clear hw1 hb1 hk1)
      go_roundw
      case rel => exact ⟨d - 1, by omega, by omega, rfl, Lib.hid ⟨done ++ [decide ((n : Int) / 2 ^ d.toNat % 2 = 1)], by rw [← List.append_assoc]; exact HW1.out, by rw [← HE.out, Int.sub_add_cancel, show (d + 1).toNat = d.toNat + 1 from by omega]; simp [bitsOf, shr_odd], HB.out.trans HB1.out, HKK.out.trans HK1.out⟩⟩
      case measure => simp [intOf]; omega
    · have hz : (d + 1).toNat = 0 := by omega
      rw [hz] at he
      simp only [bitsOf, List.append_nil] at he
      have HD := Lib.hid he
      clear hw he hb hz HE
      go_wp2
      go_end0
      exact ⟨rfl, by rw [← HD.out]; exact HW.out, HB.out, HKK.out⟩
set_option maxHeartbeats 1000000 in
set_option maxRecDepth 100000 in
theorem ones_bits {w : World} {B g : Nat} {l : List Bool} (a : Int) (h : IsB w B g l) (hl : l.length ≤ 900000000) :
    Calls Try.prog 27 #[.pointer (some ⟨g, 0, none⟩), .int .i64 a] w fun e w' => e = .returned (.tuple #[]) ∧ IsB w' B g (l ++ List.replicate (mn (mx a 0) 65536).toNat true) ∧ Below B w w' ∧ KeepsT w w' g := by
  obtain ⟨k, hk, hk0, hk64⟩ : ∃ k : Int, mn (mx a 0) 65536 = k ∧ 0 ≤ k ∧ k ≤ 65536 := ⟨_, rfl, by unfold mn mx; repeat' split <;> omega, by unfold mn mx; repeat' split <;> omega⟩
  obtain ⟨m, hm⟩ : ∃ m : Int, mx a 0 = m := ⟨_, rfl⟩
  have em : (if a < 0 then 0 else a) = m := hm
  rw [hm] at hk
  have ek : (if 65536 < m then 65536 else m) = k := hk
  rw [hm, hk]
  have HW0 := Lib.hid h
  have HL := Lib.hid hl
  clear h hk hm hl
  go_enter Try.func27, Try.ntmps27
  go_wp2
  go_loopw [7] (fun v wr => ∃ d : Int, 0 ≤ d ∧ d ≤ k ∧ v = .int .i64 d ∧ Hid (IsB wr B g (l ++ List.replicate d.toNat true) ∧ Below B w wr ∧ KeepsT w wr g)) (fun v _ => (k - intOf v).toNat)
  case atStart => exact ⟨0, by omega, by omega, rfl, Lib.hid ⟨by simpa using HW0.out, Below.refl _ _, KeepsT.refl _ _⟩⟩
  case round =>
    obtain ⟨d, hd0, hd1, rfl, H⟩ := hrel
    clear em ek
    by_cases hd : d < k
    · have HLN : Hid ((l ++ List.replicate d.toNat true).length ≤ 1000000000) := Lib.hid (by simp; have := HL.out; omega)
      go_wp2_with (go_at_call 38; refine (one_bits _ H.out.1 (by decide) (by decide) HLN.out).mono ?_; rintro e w1 ⟨rfl, hw1, hb1, hk1⟩; have HW1 := Lib.hid hw1; have HB1 := Lib.hid hb1; have HK1 := Lib.hid hk1; clear hw1 hb1 hk1)
      go_roundw
      case rel => exact ⟨d + 1, by omega, by omega, rfl, Lib.hid ⟨by rw [show (d + 1).toNat = d.toNat + 1 from by omega, List.replicate_succ', ← List.append_assoc]; exact HW1.out, H.out.2.1.trans HB1.out, H.out.2.2.trans HK1.out⟩⟩
      case measure => simp [intOf]; omega
    · obtain rfl : d = k := by omega
      go_wp2
      go_end0
      exact ⟨rfl, H.out⟩
/-- Put, at whatever number. -/
theorem put_int {w : World} {B g : Nat} {l : List Bool} (x a : Int) (h : IsB w B g l) (hx0 : 0 ≤ x) (hx1 : x < 18446744073709551616) (hl : l.length ≤ 900000000) :
    Calls Try.prog 28 #[.pointer (some ⟨g, 0, none⟩), .int .u64 x, .int .i64 a] w fun e w' => e = .returned (.tuple #[]) ∧ IsB w' B g (l ++ bitsOf x.toNat (mn (mx a 0) 64).toNat) ∧ Below B w w' ∧ KeepsT w w' g := by
  obtain ⟨n, rfl⟩ := Int.eq_ofNat_of_zero_le hx0
  exact put_bits n a h (by omega) hl
end Go.Proofs.Ytakpohcobpbjkaa.Hand
