/- Rows of bits as bytes and back; what Take and Run answer on a code: plain laws. -/
import Derived.Test.YtakpohcobpbjkaaReader3
namespace Go.Proofs.Ytakpohcobpbjkaa.Hand
open Go Go.RowKit Go.Proofs.Ytakpohcobpbjkaa.Plain Go.Proofs.Ytakpohcobpbjkaa.PAll Go.Proofs.YtakpohcobpbjkaaW.PrintWords Go.Proofs.YtakpohcobpbjkaaW.PrintLast Go.Proofs.YtakpohcobpbjkaaW.PrintMore
set_option linter.unusedVariables false
set_option linter.unusedSimpArgs false
theorem bitsOf_snoc (n : Nat) : ∀ k, bitsOf n (k + 1) = bitsOf (n / 2) k ++ [decide (n % 2 = 1)]
  | 0 => by simp [bitsOf]
  | k + 1 => by
    have ih := bitsOf_snoc n k
    have e : n / 2 ^ (k + 1) = n / 2 / 2 ^ k := by rw [Nat.pow_succ, Nat.mul_comm, Nat.div_div_eq_div_mul]
    have h1 : bitsOf n (k + 1 + 1) = decide (n / 2 ^ (k + 1) % 2 = 1) :: bitsOf n (k + 1) := rfl
    have h2 : bitsOf (n / 2) (k + 1) = decide (n / 2 / 2 ^ k % 2 = 1) :: bitsOf (n / 2) k := rfl
    rw [h1, ih, e, h2]
    rfl
theorem nv_bitsOf : ∀ (k n : Nat), nv (bitsOf n k) = n % 2 ^ k
  | 0, n => by simp [bitsOf, nv, Nat.mod_one]
  | k + 1, n => by
    rw [bitsOf_snoc, nv_snoc, nv_bitsOf k (n / 2)]
    have hp : 2 ^ (k + 1) = 2 * 2 ^ k := by rw [Nat.pow_succ, Nat.mul_comm]
    rw [hp, Nat.mod_mul]
    have : (decide (n % 2 = 1)).toNat = n % 2 := by
      by_cases h : n % 2 = 1
      · rw [decide_eq_true h, h]; rfl
      · rw [decide_eq_false h]; simp; omega
    rw [this]
    omega
theorem bitsOf_nv (l : List Bool) : bitsOf (nv l) l.length = l := by
  suffices h : ∀ n (l : List Bool), l.length = n → bitsOf (nv l) n = l from h _ l rfl
  intro n
  induction n with
  | zero =>
    intro l hl
    obtain rfl : l = [] := List.length_eq_zero_iff.1 hl
    rfl
  | succ n ih =>
    intro l hl
    have hne : l ≠ [] := by intro e; subst e; simp at hl
    have e := (List.dropLast_concat_getLast hne).symm
    have hd : l.dropLast.length = n := by simp; omega
    have h1 := ih l.dropLast hd
    generalize l.dropLast = t at *
    generalize l.getLast hne = c at *
    subst e
    rw [bitsOf_snoc, nv_snoc]
    have h2 : (2 * nv t + c.toNat) / 2 = nv t := by cases c <;> simp <;> omega
    have h3 : decide ((2 * nv t + c.toNat) % 2 = 1) = c := by cases c <;> simp <;> omega
    rw [h2, h3, h1]
/-- The noughts that fill a row's last byte. -/
def fillOf (l : List Bool) : Nat := (8 - l.length % 8) % 8
theorem allOf_pk (l : List Bool) : allOf (pk l) = l ++ List.replicate (fillOf l) false := by
  have key : ∀ q, q ≤ (l.length + 7) / 8 → ((List.range q).map (byteAt l)).flatMap (fun c => bitsOf c.toNat 8) = (l ++ List.replicate (fillOf l) false).take (8 * q) := by
    intro q
    induction q with
    | zero => intro _; simp
    | succ q ih =>
      intro hq
      rw [List.range_succ, List.map_append, List.flatMap_append, ih (by omega), Nat.mul_succ, List.take_add]
      congr 1
      have e1 : (byteAt l q).toNat = nv (chunk l q) := by unfold byteAt; simp
      have e2 := bitsOf_nv (chunk l q)
      rw [chunk_length] at e2
      have e3 := chunk_pad l (fillOf l) q (by unfold fillOf; omega) (by omega) (by unfold fillOf; omega)
      simp only [List.map_cons, List.map_nil, List.flatMap_cons, List.flatMap_nil, List.append_nil]
      rw [e1, e2, e3]
  have := key _ (Nat.le_refl _)
  unfold allOf pk
  rw [this]
  apply List.take_of_length_le
  simp
  unfold fillOf
  omega
theorem takeOf_code (n q : Nat) (T : List Bool) : takeOf (bitsOf n q ++ T) q = (n % 2 ^ q, 0, q) := by
  unfold takeOf
  rw [if_neg (by simp [bitsOf_length]), List.take_append_of_le_length (by rw [bitsOf_length]; omega), List.take_of_length_le (by rw [bitsOf_length]; omega), nv_bitsOf]
theorem lead_code : ∀ (j : Nat) (T : List Bool), lead (List.replicate j true ++ false :: T) = j
  | 0, T => rfl
  | j + 1, T => by
    rw [List.replicate_succ, List.cons_append]
    show lead (List.replicate j true ++ false :: T) + 1 = j + 1
    rw [lead_code j T]
theorem runOf_code (j : Nat) (T : List Bool) (hj : j ≤ 100) : runOf ((List.replicate j true ++ [false]) ++ T) 100 = (j, 0, j + 1) := by
  have e : (List.replicate j true ++ [false]) ++ T = List.replicate j true ++ false :: T := by simp
  rw [e]
  unfold runOf
  rw [lead_code, if_neg (by omega), if_neg (by simp)]
end Go.Proofs.Ytakpohcobpbjkaa.Hand
