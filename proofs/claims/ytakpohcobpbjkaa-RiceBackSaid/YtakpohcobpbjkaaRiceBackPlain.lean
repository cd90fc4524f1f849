/- What was put is what is got: the plain law. -/
import Derived.Test.YtakpohcobpbjkaaBitPk
import Derived.Test.YtakpohcobpbjkaaGet
namespace Go.Proofs.Ytakpohcobpbjkaa.Hand
open Go Go.RowKit Go.Proofs.Ytakpohcobpbjkaa.Plain Go.Proofs.Ytakpohcobpbjkaa.PAll Go.Proofs.YtakpohcobpbjkaaW.PrintWords Go.Proofs.YtakpohcobpbjkaaW.PrintLast Go.Proofs.YtakpohcobpbjkaaW.PrintMore
set_option linter.unusedVariables false
set_option linter.unusedSimpArgs false
theorem getOf_code (p : Int) (n : Nat) (T : List Bool) (hq : n / 2 ^ hp p ≤ 100) : getOf (riceCode p n ++ T) p 100 = (n, 0, (riceCode p n).length) := by
  unfold getOf
  rw [show (mx (mn 100 65536) 0).toNat = 100 from rfl]
  have h1 : runOf (riceCode p n ++ T) 100 = (n / 2 ^ hp p, 0, n / 2 ^ hp p + 1) := by
    unfold riceCode
    rw [List.append_assoc]
    exact runOf_code _ _ hq
  have h2 : (riceCode p n ++ T).drop (n / 2 ^ hp p + 1) = bitsOf n (hp p) ++ T := by
    unfold riceCode
    rw [List.append_assoc, List.drop_append_of_le_length (by simp), List.drop_of_length_le (by simp), List.nil_append]
  rw [h1]
  simp only [if_true]
  rw [h2, takeOf_code]
  simp only [if_true]
  rw [Nat.div_add_mod', riceCode_length]
def codeR (p : Int) (xs : List Int) : List Bool := xs.flatMap (fun x => riceCode p x.toNat)
theorem codeR_app (p : Int) (a b : List Int) : codeR p (a ++ b) = codeR p a ++ codeR p b := by simp [codeR]
theorem take_rd {xs : List Int} {k : Int} (h0 : 0 ≤ k) (h1 : k < (xs.length : Int)) : xs.take (k + 1).toNat = xs.take k.toNat ++ [rd xs k] := by
  have e : (k + 1).toNat = k.toNat + 1 := by omega
  rw [e, List.take_succ_eq_append_getElem (by omega)]
  unfold rd
  rw [List.getD_eq_getElem?_getD, List.getElem?_eq_getElem (by omega)]
  rfl
theorem codeR_step {p : Int} {xs : List Int} {k : Int} (h0 : 0 ≤ k) (h1 : k < (xs.length : Int)) : codeR p (xs.take (k + 1).toNat) = codeR p (xs.take k.toNat) ++ riceCode p (rd xs k).toNat := by rw [take_rd h0 h1, codeR_app]; simp [codeR]
theorem codeR_take_le (p : Int) (xs : List Int) (k : Nat) : (codeR p (xs.take k)).length ≤ (codeR p xs).length := by
  have e : codeR p xs = codeR p (xs.take k) ++ codeR p (xs.drop k) := by rw [← codeR_app, List.take_append_drop]
  rw [e, List.length_append]
  omega
theorem codeR_length (p : Int) (xs : List Int) (h : ∀ x ∈ xs, x.toNat / 2 ^ hp p ≤ 100) : (codeR p xs).length ≤ 133 * xs.length := by
  induction xs with
  | nil => simp [codeR]
  | cons x xs ih =>
    have e : codeR p (x :: xs) = riceCode p x.toNat ++ codeR p xs := rfl
    have h1 := riceCode_length p x.toNat
    have h2 := h x (by simp)
    have h3 := hp_le p
    have h4 := ih (fun y hy => h y (by simp [hy]))
    rw [e, List.length_append, List.length_cons]
    omega
theorem codeR_rest {p : Int} {xs : List Int} {k : Int} (h0 : 0 ≤ k) (h1 : k < (xs.length : Int)) : ∃ T, (allOf (pk (codeR p xs))).drop (codeR p (xs.take k.toNat)).length = riceCode p (rd xs k).toNat ++ T := by
  have e : xs = xs.take (k + 1).toNat ++ xs.drop (k + 1).toNat := (List.take_append_drop _ _).symm
  have e2 : codeR p xs = codeR p (xs.take (k + 1).toNat) ++ codeR p (xs.drop (k + 1).toNat) := by rw [← codeR_app, ← e]
  refine ⟨codeR p (xs.drop (k + 1).toNat) ++ List.replicate (fillOf (codeR p xs)) false, ?_⟩
  rw [allOf_pk]
  generalize fillOf (codeR p xs) = z
  rw [e2, codeR_step h0 h1]
  simp [List.append_assoc]
theorem codeR_end (p : Int) (xs : List Int) : cleanOf ((allOf (pk (codeR p xs))).drop (codeR p xs).length) = true := by
  rw [allOf_pk, List.drop_append_of_le_length (Nat.le_refl _), List.drop_length, List.nil_append]
  unfold cleanOf
  have h1 : (List.replicate (fillOf (codeR p xs)) false).length < 8 := by simp; unfold fillOf; omega
  have h2 : nv (List.replicate (fillOf (codeR p xs)) false) = 0 := by
    have := nv_zeros [] (fillOf (codeR p xs))
    simpa [nv] using this
  rw [decide_eq_true h1, decide_eq_true h2]
  rfl
end Go.Proofs.Ytakpohcobpbjkaa.Hand
