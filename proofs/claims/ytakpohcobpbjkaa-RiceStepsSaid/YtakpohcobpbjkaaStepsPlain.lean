/- Numbers that rise, by their steps: what the document's Steps computes. -/
import Derived.Test.YtakpohcobpbjkaaRice
namespace Go.Proofs.Ytakpohcobpbjkaa.Hand
open Go Go.RowKit Go.Proofs.Ytakpohcobpbjkaa.Plain Go.Proofs.Ytakpohcobpbjkaa.PAll Go.Proofs.YtakpohcobpbjkaaW.PrintWords Go.Proofs.YtakpohcobpbjkaaW.PrintLast Go.Proofs.YtakpohcobpbjkaaW.PrintMore
set_option linter.unusedVariables false
set_option linter.unusedSimpArgs false
/-- The bits of numbers by their steps, or an error. -/
def stepsOf (p : Int) : Nat → List Int → List Bool → List Bool × Int
  | _, [], acc => (acc, 0)
  | last, x :: xs, acc => if x.toNat < last then ([], 5) else if 65536 < (x.toNat - last) / 2 ^ hp p then ([], 4) else stepsOf p x.toNat xs (acc ++ riceCode p (x.toNat - last))
/-- The number ahead of place i. -/
def prevN (xs : List Int) (i : Nat) : Nat := if i = 0 then 0 else (rd xs ((i - 1 : Nat) : Int)).toNat
theorem prevN_succ (xs : List Int) (i : Nat) : prevN xs (i + 1) = (rd xs (i : Int)).toNat := by unfold prevN; rw [if_neg (by omega), Nat.add_sub_cancel]
/-- No step but a great one has more than 600 ones. -/
def Few (p : Int) (xs : List Int) (i : Nat) : Prop := ((rd xs (i : Int)).toNat - prevN xs i) / 2 ^ hp p ≤ 600 ∨ 65536 < ((rd xs (i : Int)).toNat - prevN xs i) / 2 ^ hp p
theorem drop_rd {xs : List Int} {i : Nat} (h : i < xs.length) : xs.drop i = rd xs (i : Int) :: xs.drop (i + 1) := by
  rw [List.drop_eq_getElem_cons h]
  congr 1
  unfold rd
  rw [Int.toNat_natCast, List.getD_eq_getElem?_getD, List.getElem?_eq_getElem h]
  rfl
theorem strOf_nil : strOfNums (pk []) = (⟨#[]⟩ : ByteArray) := rfl
theorem steps_ref_loop (p : Int) (xs : List Int) (hx : ∀ x ∈ xs, 0 ≤ x ∧ x < 18446744073709551616) (hl : xs.length ≤ 20) (hf : ∀ i, i < xs.length → Few p xs i) (d : Nat) : ∀ (k i : Nat) (acc : List Bool), i + d = xs.length → d + 20000 < k → acc.length ≤ 640 * i →
    mastheadref12_Steps.l0 k p xs (txt acc) (i : Int) = some (strOfNums (pk (stepsOf p (prevN xs i) (xs.drop i) acc).1), (stepsOf p (prevN xs i) (xs.drop i) acc).2) := by
  have hle := hp_le p
  induction d with
  | zero =>
    intro k i acc hi hk ha
    obtain ⟨k, rfl⟩ : ∃ m, k = m + 1 := ⟨k - 1, by omega⟩
    simp only [mastheadref12_Steps.l0]
    rw [if_neg (by omega), bytes_tells acc (by omega) k (by omega), List.drop_of_length_le (by omega)]
    rfl
  | succ d ih =>
    intro k i acc hi hk ha
    obtain ⟨k, rfl⟩ : ∃ m, k = m + 1 := ⟨k - 1, by omega⟩
    have hil : i < xs.length := by omega
    have hfi := hf i hil
    unfold Few at hfi
    rw [drop_rd hil]
    have hmem : ∀ j : Nat, j < xs.length → rd xs (j : Int) ∈ xs := fun j hj => by
      unfold rd
      rw [List.getD_eq_getElem?_getD, List.getElem?_eq_getElem (by omega)]
      exact List.getElem_mem _
    have hb1 := hx _ (hmem i hil)
    have hsucc := prevN_succ xs i
    have key : ∀ (y : Nat), y = (rd xs (i : Int)).toNat - prevN xs i → ¬ (rd xs (i : Int)).toNat < prevN xs i →
        ((mastheadref12_Bits.f k p (y : Int)).bind fun bt => (if bt.2 = true then (if (txt acc).size + bt.1.size ≤ 9223372036854775807 then (mastheadref12_Steps.l0 k p xs (txt acc ++ bt.1) (wrap64 ((i : Int) + 1))) else none) else some ((⟨#[]⟩ : ByteArray), 4))) =
        some (strOfNums (pk (stepsOf p (prevN xs i) (rd xs (i : Int) :: xs.drop (i + 1)) acc).1), (stepsOf p (prevN xs i) (rd xs (i : Int) :: xs.drop (i + 1)) acc).2) := by
      intro y hy hnl
      rw [← hy] at hfi
      unfold stepsOf
      rw [if_neg hnl, ← hy]
      by_cases hq : 65536 < y / 2 ^ hp p
      · rw [if_pos hq, bits_ref_big p y (by omega) hq k (by omega)]
        rfl
      · rw [if_neg hq]
        have h6 : y / 2 ^ hp p ≤ 600 := by omega
        have hcl := riceCode_length p y
        rw [bits_ref p y (by omega) (by omega) k (by omega), Option.bind_some]
        simp only [if_true]
        rw [if_pos (by rw [txt_size, txt_size]; omega), txt_append, wrap64_succ (by omega), ← hsucc]
        exact ih k (i + 1) _ (by omega) (by omega) (by rw [List.length_append]; omega)
    simp only [mastheadref12_Steps.l0]
    rw [if_pos (by omega), if_pos (by omega)]
    by_cases h0 : i = 0
    · subst h0
      rw [if_neg (by omega)]
      have e : rd xs ((0 : Nat) : Int) = (((rd xs ((0 : Nat) : Int)).toNat : Nat) : Int) := by omega
      have hp0 : prevN xs 0 = 0 := rfl
      have := key _ rfl (by omega)
      rw [hp0, Nat.sub_zero, ← e] at this
      rw [hp0]
      exact this
    · have hw : wrap64 ((i : Int) - 1) = ((i - 1 : Nat) : Int) := by rw [wrap64_id (by omega) (by omega)]; omega
      have hpv : prevN xs i = (rd xs ((i - 1 : Nat) : Int)).toNat := by unfold prevN; rw [if_neg h0]
      have hb2 := hx _ (hmem (i - 1) (by omega))
      rw [if_pos (by omega), hw, if_pos (by omega), if_pos (by omega)]
      by_cases hlt : rd xs (i : Int) < rd xs ((i - 1 : Nat) : Int)
      · rw [if_pos hlt]
        unfold stepsOf
        rw [if_pos (by omega)]
        rfl
      · rw [if_neg hlt]
        have e : IntKind.u64.wrap (rd xs (i : Int) - rd xs ((i - 1 : Nat) : Int)) = (((rd xs (i : Int)).toNat - prevN xs i : Nat) : Int) := by
          rw [hpv, u64w_id (by omega) (by omega)]
          omega
        rw [e]
        exact key _ rfl (by omega)
theorem steps_ref (p : Int) (xs : List Int) (hx : ∀ x ∈ xs, 0 ≤ x ∧ x < 18446744073709551616) (hl : xs.length ≤ 20) (hf : ∀ i, i < xs.length → Few p xs i) (k : Nat) (hk : 30000 ≤ k) :
    mastheadref12_Steps.f k p xs = some (strOfNums (pk (stepsOf p 0 xs []).1), (stepsOf p 0 xs []).2) := by
  have := steps_ref_loop p xs hx hl hf xs.length k 0 [] (by omega) (by omega) (by simp)
  simpa [mastheadref12_Steps.f, prevN, txt] using this
end Go.Proofs.Ytakpohcobpbjkaa.Hand
