/- Little and Num of octet: what they compute. -/
import Derived.Test.YtfcmdhimlfoofaaPlain
import Derived.Test.YtfcmdhimlfoofaaMAlln0
import Derived.Test.YtfcmdhimlfoofaaMAlln1
import Derived.Test.YtfcmdhimlfoofaaMAlln2
namespace Go.Proofs.Ytfcmdhimlfoofaa.Hand
open Go Go.RowKit Go.Proofs.Ytfcmdhimlfoofaa.Plain Go.Proofs.Ytfcmdhimlfoofaa.PAll Go.Proofs.YtfcmdhimlfoofaaW.PrintWords Go.Proofs.YtfcmdhimlfoofaaW.PrintLast Go.Proofs.YtfcmdhimlfoofaaW.PrintMore
set_option linter.unusedVariables false
set_option linter.unusedSimpArgs false
theorem little_loop (n L : Nat) (hL : L ≤ 8) (d : Nat) : ∀ (k : Nat) (xs : List Int) (i : Nat), xs.length = L → i + d = L → d < k → octet_Little.l0 k (n : Int) xs (L : Int) (i : Int) = some (xs.take i ++ digs d (n / 256 ^ i)) := by
  induction d with
  | zero =>
    intro k xs i hx hi hk
    obtain ⟨k, rfl⟩ : ∃ m, k = m + 1 := ⟨k - 1, by omega⟩
    simp only [octet_Little.l0]
    rw [if_neg (by omega)]
    simp [digs, List.take_of_length_le (by omega : xs.length ≤ i)]
  | succ d ih =>
    intro k xs i hx hi hk
    obtain ⟨k, rfl⟩ : ∃ m, k = m + 1 := ⟨k - 1, by omega⟩
    simp only [octet_Little.l0]
    have e1 : wrap64 (8 * (i : Int)) = ((8 * i : Nat) : Int) := by rw [wrap64_id (by omega) (by omega)]; simp
    have e2 : wrap64 ((i : Int) + 1) = ((i + 1 : Nat) : Int) := wrap64_succ (by omega)
    rw [if_pos (by omega), e1, if_pos (by omega), if_pos (by omega), if_pos (by omega), e2, ih k _ (i + 1) (by simpa using hx) (by omega) (by omega)]
    rw [show ((i : Int)).toNat = i from by simp, take_set_succ _ _ _ (by omega), shr_byte n i (by omega)]
    simp [digs, List.append_assoc, Nat.pow_succ, Nat.div_div_eq_div_mul]
/-- The width that counts. -/
def wid (w : Int) : Nat := (mn (mx w 0) 8).toNat
theorem wid_le (w : Int) : wid w ≤ 8 := by unfold wid mn mx; split <;> split <;> omega
theorem little_tells (n : Nat) (w : Int) (k : Nat) (hk : 10 ≤ k) : octet_Little.f k (n : Int) w = some (digs (wid w) n) := by
  have hw := wid_le w
  unfold octet_Little.f
  have h0 : 0 ≤ mn (mx w 0) 8 := by unfold mn mx; split <;> split <;> omega
  rw [if_pos h0, if_pos (by unfold wid at hw; omega)]
  simp only [Option.bind_some]
  have e := little_loop n (wid w) hw (wid w) k (List.replicate (wid w) 0) 0 (by simp) (by simp) (by omega)
  simpa [wid] using e
theorem num_loop (xs : List Int) (hb : ∀ x ∈ xs, 0 ≤ x ∧ x < 256) (L : Nat) (hL : L ≤ 8) (hLx : L ≤ xs.length) (d : Nat) : ∀ (k i : Nat), i + d = L → d < k →
    octet_Num.l0 k xs (val (xs.take i)) (L : Int) (i : Int) = some (val (xs.take L)) := by
  induction d with
  | zero =>
    intro k i hi hk
    obtain ⟨k, rfl⟩ : ∃ m, k = m + 1 := ⟨k - 1, by omega⟩
    simp only [octet_Num.l0]
    rw [if_neg (by omega), show i = L from by omega]
  | succ d ih =>
    intro k i hi hk
    obtain ⟨k, rfl⟩ : ∃ m, k = m + 1 := ⟨k - 1, by omega⟩
    have hil : i < xs.length := by omega
    simp only [octet_Num.l0]
    have e1 : wrap64 (8 * (i : Int)) = ((8 * i : Nat) : Int) := by rw [wrap64_id (by omega) (by omega)]; simp
    have x1 : rd xs (i : Int) = xs[i] := by simp [rd, hil]
    have hx := hb xs[i] (List.getElem_mem hil)
    have hbt : ∀ x ∈ xs.take i, 0 ≤ x ∧ x < 256 := fun x h => hb x (List.mem_of_mem_take h)
    have hv := val_bounds (xs.take i) hbt
    rw [List.length_take, Nat.min_eq_left (by omega)] at hv
    have hbt' : ∀ x ∈ xs.take (i + 1), 0 ≤ x ∧ x < 256 := fun x h => hb x (List.mem_of_mem_take h)
    have hv' := val_u64 (xs.take (i + 1)) hbt' (by simp; omega)
    have et : val (xs.take (i + 1)) = val (xs.take i) + xs[i] * 256 ^ i := by
      rw [List.take_succ_eq_append_getElem hil, val_append, List.length_take, Nat.min_eq_left (by omega)]
      simp [val, Int.mul_comm]
    have hp : (0 : Int) ≤ xs[i] * 256 ^ i := Int.mul_nonneg hx.1 (Int.pow_nonneg (by decide))
    have p8 : (256 : Int) ^ i = 2 ^ (8 * i) := pow256i i
    have es : shl .u64 (IntKind.u64.wrap (rd xs (i : Int))) ((8 * i : Nat) : Int) = xs[i] * 256 ^ i := by
      rw [x1, u64w_id (by omega) (by omega)]
      unfold shl
      rw [Nat.min_eq_left (by simp [IntKind.bits]; omega)]
      simp only [Int.toNat_natCast]
      rw [← p8, u64w_id hp (by omega)]
    rw [if_pos (by omega), if_pos (by omega), if_pos (by omega), e1, if_pos (by omega), es]
    rw [or64' (8 * i) hv.1 (by rw [← p8]; exact hv.2) (by omega) hp (by rw [p8]; exact Int.mul_emod_left _ _) (by omega)]
    rw [← et, wrap64_succ (by omega)]
    exact ih k (i + 1) (by omega) (by omega)
theorem num_tells (xs : List Int) (hb : ∀ x ∈ xs, 0 ≤ x ∧ x < 256) (k : Nat) (hk : 10 ≤ k) (hl : xs.length < 1000000) : octet_Num.f k xs = some (val (xs.take 8)) := by
  unfold octet_Num.f
  have em : mn (xs.length : Int) 8 = ((min xs.length 8 : Nat) : Int) := by unfold mn; split <;> omega
  have := num_loop xs hb (min xs.length 8) (by omega) (by omega) (min xs.length 8) k 0 (by omega) (by omega)
  rw [em]
  have e2 : xs.take (min xs.length 8) = xs.take 8 := by rw [List.take_eq_take_iff]; omega
  rw [e2] at this
  simpa [val] using this
end Go.Proofs.Ytfcmdhimlfoofaa.Hand
