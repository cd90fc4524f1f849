/- CodecOne: the plain law: bytes that are taken as a count are its only spelling. -/
import Derived.Test.YtigmkbkmfhlimaaCount
namespace Go.Proofs.Ytigmkbkmfhlimaa.Hand
open Go Go.RowKit Go.Proofs.Ytigmkbkmfhlimaa.Plain Go.Proofs.Ytigmkbkmfhlimaa.PAll Go.Proofs.YtigmkbkmfhlimaaW.PrintWords Go.Proofs.YtigmkbkmfhlimaaW.PrintLast Go.Proofs.YtigmkbkmfhlimaaW.PrintMore
set_option linter.unusedVariables false
set_option linter.unusedSimpArgs false
theorem one_plain (bs : List Int) (hb : ∀ x ∈ bs, 0 ≤ x ∧ x < 256) (most : Int) : ((varR bs 0 0 most).2.2 ≠ 0 → (varR bs 0 0 most).1 = 0 ∧ (varR bs 0 0 most).2.1 = 0) ∧ ((varR bs 0 0 most).2.2 = 0 → varB (varR bs 0 0 most).1.toNat ++ bs.drop (varR bs 0 0 most).2.1 = bs ∧ (varR bs 0 0 most).2.1 ≤ bs.length ∧ 0 ≤ (varR bs 0 0 most).1 ∧ (varR bs 0 0 most).1 < 18446744073709551616) := by
  refine ⟨fun h => (varR_err bs 0 0 most).resolve_left h, fun h => ?_⟩
  have hc := varR_count bs 0 (Nat.zero_le _) most
  rw [List.drop_zero] at hc
  rw [hc] at h ⊢
  simp only [Nat.zero_add] at h ⊢
  obtain ⟨h1, h2, h3, h4, h5⟩ := count_ok hb (s := bs) (most := most) (n := (countS bs most).1) (k := (countS bs most).2.1) (by rw [← h])
  exact ⟨by rw [h1, List.take_append_drop], h2, h3, h5⟩
theorem takeR_rest (bs : List Int) (p : Nat) (hp : p ≤ bs.length) : takeR bs p 0 ((bs.length : Int) - p) = (bs.drop p, bs.length, 0) := by
  unfold takeR
  rw [if_neg (by decide), if_neg (by omega)]
  have e : ((bs.length : Int) - p).toNat = bs.length - p := by omega
  rw [e, List.take_of_length_le (by simp)]
  simp only [Prod.mk.injEq, true_and, and_true]
  omega
end Go.Proofs.Ytigmkbkmfhlimaa.Hand
