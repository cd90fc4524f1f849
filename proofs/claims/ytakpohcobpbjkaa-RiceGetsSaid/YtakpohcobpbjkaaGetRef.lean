/- What the document's Get computes over rows of bits. -/
import Derived.Test.YtakpohcobpbjkaaGet
namespace Go.Proofs.Ytakpohcobpbjkaa.Hand
open Go Go.RowKit Go.Proofs.Ytakpohcobpbjkaa.Plain Go.Proofs.Ytakpohcobpbjkaa.PAll Go.Proofs.YtakpohcobpbjkaaW.PrintWords Go.Proofs.YtakpohcobpbjkaaW.PrintLast Go.Proofs.YtakpohcobpbjkaaW.PrintMore
set_option linter.unusedVariables false
set_option linter.unusedSimpArgs false
theorem runOf_ones (s : List Bool) (m : Nat) : (runOf s m).1 ≤ m := by
  unfold runOf
  repeat' split
  all_goals first | omega | (simp; done) | (simp only; omega)
theorem takeOf_num (s : List Bool) (q : Nat) : (takeOf s q).1 < 2 ^ q := by
  unfold takeOf
  split
  · exact Nat.two_pow_pos _
  · have := nv_lt (s.take q)
    have h3 : (s.take q).length ≤ q := by simp; omega
    exact Nat.lt_of_lt_of_le this (Nat.pow_le_pow_right (by decide) h3)
theorem get_loop (p : Int) (x : ByteArray) (t q : Nat) (hq : q ≤ 65536) (ht : t < 2 ^ hp p) (d : Nat) : ∀ (k i : Nat), i + d = hp p → d < k →
    mastheadref12_Get.l0 k p x (t : Int) ((q * 2 ^ i : Nat) : Int) (i : Int) = some (x, ((q * 2 ^ hp p + t : Nat) : Int), 0) := by
  have hle := hp_le p
  have hb : ∀ j, j ≤ 32 → q * 2 ^ j ≤ 65536 * 2 ^ 32 := fun j hj => Nat.mul_le_mul hq (Nat.pow_le_pow_right (by decide) hj)
  have h2 : 2 ^ hp p ≤ 2 ^ 32 := Nat.pow_le_pow_right (by decide) hle
  induction d with
  | zero =>
    intro k i hi hk
    obtain ⟨k, rfl⟩ : ∃ m, k = m + 1 := ⟨k - 1, by omega⟩
    obtain rfl : i = hp p := by omega
    simp only [mastheadref12_Get.l0]
    have := hb (hp p) hle
    rw [held_ref, Option.bind_some, if_neg (by omega), u64w_id (by omega) (by omega)]
    simp
  | succ d ih =>
    intro k i hi hk
    obtain ⟨k, rfl⟩ : ∃ m, k = m + 1 := ⟨k - 1, by omega⟩
    simp only [mastheadref12_Get.l0]
    have h3 := hb i (by omega)
    have e : ((q * 2 ^ i : Nat) : Int) * 2 = ((q * 2 ^ (i + 1) : Nat) : Int) := by rw [Nat.pow_succ, ← Nat.mul_assoc]; omega
    rw [held_ref, Option.bind_some, if_pos (by omega), e, u64w_id (Int.natCast_nonneg _) (by rw [← e]; omega), wrap64_succ (by omega)]
    exact ih k (i + 1) (by omega) (by omega)
theorem ref_get (s : List Bool) (hs : s.length ≤ 1000) (p most : Int) (k : Nat) (hk : 1400 ≤ k) :
    mastheadref12_Get.f k (txt s) p most = some (txt (s.drop (getOf s p most).2.2), ((getOf s p most).1 : Int), (getOf s p most).2.1) := by
  obtain ⟨m, hm, hm6⟩ : ∃ m : Nat, mx (mn most 65536) 0 = (m : Int) ∧ m ≤ 65536 := by
    refine ⟨(mx (mn most 65536) 0).toNat, ?_, ?_⟩ <;> unfold mn mx <;> repeat' split
    all_goals omega
  have hle := hp_le p
  obtain ⟨k, rfl⟩ : ∃ j, k = j + 2 := ⟨k - 2, by omega⟩
  have hj1 : mastheadref12_Get.f (k + 2) (txt s) p most = mastheadref12_Get.j1 (k + 1) (txt s) p (m : Int) := by
    unfold mastheadref12_Get.f
    rw [← hm]
    unfold mn mx
    by_cases h0 : most < 0
    · rw [if_pos h0, if_neg (show ¬ 65536 < most by omega), if_pos h0]
      simp [mastheadref12_Get.j0]
    · rw [if_neg h0]
      by_cases h6 : most > 65536
      · simp only [mastheadref12_Get.j0]
        rw [if_pos h6, if_pos h6]
        rfl
      · simp only [mastheadref12_Get.j0]
        rw [if_neg h6, if_neg h6, if_neg h0]
  have hj2 : mastheadref12_Get.j1 (k + 1) (txt s) p (m : Int) = some (txt (s.drop (getOf s p most).2.2), ((getOf s p most).1 : Int), (getOf s p most).2.1) := by
    simp only [mastheadref12_Get.j1]
    rw [ref_run s (by omega) m k (by omega), Option.bind_some]
    unfold getOf
    rw [hm, Int.toNat_natCast]
    have hr1 := runOf_ones s m
    obtain ⟨⟨rv, re, rc⟩, hrun⟩ : ∃ x, runOf s m = x := ⟨_, rfl⟩
    rw [hrun] at hr1 ⊢
    simp only at hr1 ⊢
    by_cases hre : re = 0
    · rw [if_pos hre, if_pos hre, held_ref, Option.bind_some, ref_take (s.drop rc) (by simp; omega) (hp p) (by omega) k (by omega), Option.bind_some]
      have ht := takeOf_num (s.drop rc) (hp p)
      obtain ⟨⟨tv, te, tc⟩, htk⟩ : ∃ x, takeOf (s.drop rc) (hp p) = x := ⟨_, rfl⟩
      rw [htk] at ht ⊢
      simp only at ht ⊢
      by_cases hte : te = 0
      · rw [if_pos hte, if_pos hte, u64w_id (by omega) (by omega)]
        have := get_loop p (txt ((s.drop rc).drop tc)) tv rv (by omega) ht (hp p) k 0 (by omega) (by omega)
        rw [Nat.pow_zero, Nat.mul_one] at this
        rw [List.drop_drop] at this ⊢
        exact this
      · rw [if_neg hte, if_neg hte]
        simp
    · rw [if_neg hre, if_neg hre]
      simp
  rw [hj1, hj2]
theorem getOf_le (s : List Bool) (p most : Int) : (getOf s p most).2.2 ≤ s.length := by
  have h1 := runOf_le s (mx (mn most 65536) 0).toNat
  unfold getOf
  simp only
  split
  · have h2 := takeOf_le (s.drop (runOf s (mx (mn most 65536) 0).toNat).2.2) (hp p)
    split
    · simp at h2 ⊢; omega
    · simp
  · simp
end Go.Proofs.Ytakpohcobpbjkaa.Hand
