/- Any number of so many bytes comes back from them, in either order: for every number and width. -/
import Derived.Test.YtcgaakbehgpmmaaPlain
import Derived.Test.YtcgaakbehgpmmaaMOctetBackn2
namespace Go.Proofs.Ytcgaakbehgpmmaa.Pure
open Go.RowKit Go.Proofs.Ytcgaakbehgpmmaa.Plain Go.Proofs.Ytcgaakbehgpmmaa.POctetBack Go.Proofs.YtcgaakbehgpmmaaW.PrintWords Go.Proofs.YtcgaakbehgpmmaaW.PrintLast Go.Proofs.YtcgaakbehgpmmaaW.PrintMore
set_option linter.unusedVariables false
set_option linter.unusedSimpArgs false
theorem little_loop (n L : Nat) (hL : L ≤ 8) (d : Nat) : ∀ (k : Nat) (xs : List Int) (i : Nat), xs.length = L → i + d = L → d < k → octet_Little.l0 k (n : Int) xs (L : Int) (i : Int) = some (xs.take i ++ digs d (n / 256 ^ i)) := by
  induction d with
  | zero =>
    intro k xs i hx hi hk
    obtain ⟨k, rfl⟩ : ∃ m, k = m + 1 := ⟨k - 1, by omega⟩
    simp only [octet_Little.l0]
    rw [if_neg (by omega)]
    simp [digs, List.take_of_length_le (by omega : xs.length ≤ i)]
  | succ d ih =>
    intro k xs i hx hi hk
    obtain ⟨k, rfl⟩ : ∃ m, k = m + 1 := ⟨k - 1, by omega⟩
    simp only [octet_Little.l0]
    have e1 : wrap64 (8 * (i : Int)) = ((8 * i : Nat) : Int) := by rw [wrap64_id (by omega) (by omega)]; simp
    have e2 : wrap64 ((i : Int) + 1) = ((i + 1 : Nat) : Int) := wrap64_succ (by omega)
    rw [if_pos (by omega), e1, if_pos (by omega), if_pos (by omega), if_pos (by omega), e2, ih k _ (i + 1) (by simpa using hx) (by omega) (by omega)]
    rw [show ((i : Int)).toNat = i from by simp, take_set_succ _ _ _ (by omega), shr_byte n i (by omega)]
    simp [digs, List.append_assoc, Nat.pow_succ, Nat.div_div_eq_div_mul]
/-- The width that counts. -/
def wid (w : Int) : Nat := (mn (mx w 0) 8).toNat
theorem wid_le (w : Int) : wid w ≤ 8 := by unfold wid mn mx; split <;> split <;> omega
theorem little_tells (n : Nat) (w : Int) (k : Nat) (hk : 10 ≤ k) : octet_Little.f k (n : Int) w = some (digs (wid w) n) := by
  have hw := wid_le w
  unfold octet_Little.f
  have h0 : 0 ≤ mn (mx w 0) 8 := by unfold mn mx; split <;> split <;> omega
  rw [if_pos h0, if_pos (by unfold wid at hw; omega)]
  simp only [Option.bind_some]
  have e := little_loop n (wid w) hw (wid w) k (List.replicate (wid w) 0) 0 (by simp) (by simp) (by omega)
  simpa [wid] using e
theorem rd_nat (xs : List Int) (i : Nat) : rd xs (i : Int) = xs.getD i 0 := by simp [rd]
theorem reverse_loop (d : Nat) : ∀ (k : Nat) (a m b : List Int), m.length = d → d < k → a.length + d + b.length < 1000000 →
    slices_Reverse_byte_byte.l0 k (a ++ m ++ b) (a.length : Int) ((a.length : Int) + d - 1) = some (a ++ m.reverse ++ b) := by
  induction d using Nat.strongRecOn with
  | _ d ih =>
    intro k a m b hm hk hb
    obtain ⟨k, rfl⟩ : ∃ j, k = j + 1 := ⟨k - 1, by omega⟩
    simp only [slices_Reverse_byte_byte.l0]
    by_cases h : d ≤ 1
    · rw [if_neg (by omega)]
      match m, hm with
      | [], _ => rfl
      | [x], _ => rfl
      | x :: y :: m, hm => simp at hm; omega
    · obtain ⟨x, m1, rfl⟩ : ∃ x m1, m = x :: m1 := by
        cases m with
        | nil => simp at hm; omega
        | cons x m1 => exact ⟨x, m1, rfl⟩
      obtain ⟨m2, y, rfl⟩ : ∃ m2 y, m1 = m2 ++ [y] := by
        have : m1 ≠ [] := by intro e; subst e; simp at hm; omega
        exact ⟨m1.dropLast, m1.getLast this, (List.dropLast_concat_getLast this).symm⟩
      have hl : m2.length + 2 = d := by simp at hm; omega
      have hlen : (a ++ (x :: (m2 ++ [y])) ++ b).length = a.length + d + b.length := by simp; omega
      have ej : ((a.length : Int) + d - 1) = ((a.length + (m2.length + 1) : Nat) : Int) := by omega
      rw [ej]
      rw [if_pos (by omega), if_pos (by omega), if_pos (by omega), if_pos (by omega), if_pos (by omega)]
      rw [rd_nat, rd_nat]
      have r1 : (a ++ (x :: (m2 ++ [y])) ++ b).getD (a.length + (m2.length + 1)) 0 = y := by
        simp [List.getD_eq_getElem?_getD, List.append_assoc]
      have r2 : (a ++ (x :: (m2 ++ [y])) ++ b).getD a.length 0 = x := by
        simp [List.getD_eq_getElem?_getD, List.append_assoc]
      rw [r1, r2]
      have s1 : ((a ++ (x :: (m2 ++ [y])) ++ b).set ((a.length : Int)).toNat y).set (((a.length + (m2.length + 1) : Nat) : Int)).toNat x = (a ++ [y]) ++ m2 ++ (x :: b) := by
        rw [Int.toNat_natCast, Int.toNat_natCast]
        simp [List.append_assoc, List.set_append, Nat.add_sub_cancel_left]
      rw [s1]
      have e1 : wrap64 ((a.length : Int) + 1) = ((a ++ [y]).length : Int) := by rw [wrap64_id (by omega) (by omega)]; simp
      have e2 : wrap64 (((a.length + (m2.length + 1) : Nat) : Int) - 1) = ((a ++ [y]).length : Int) + (m2.length : Nat) - 1 := by
        rw [wrap64_id (by omega) (by omega)]; simp; omega
      rw [e1, e2, ih m2.length (by omega) k (a ++ [y]) m2 (x :: b) rfl (by omega) (by simp; omega)]
      simp [List.append_assoc]
theorem reverse_tells (xs : List Int) (k : Nat) (hk : xs.length < k) (hl : xs.length < 1000000) : slices_Reverse_byte_byte.f k xs = some xs.reverse := by
  unfold slices_Reverse_byte_byte.f
  have := reverse_loop xs.length k [] xs [] rfl hk (by simpa using hl)
  rw [wrap64_id (by omega) (by omega)]
  simpa using this
theorem great_tells (n : Nat) (w : Int) (k : Nat) (hk : 10 ≤ k) : octet_Great.f k (n : Int) w = some (digs (wid w) n).reverse := by
  have hw := wid_le w
  unfold octet_Great.f
  rw [little_tells n w k hk]
  simp only [Option.bind_some]
  rw [reverse_tells _ k (by rw [digs_length]; omega) (by rw [digs_length]; omega)]
  rfl
theorem awake_ok (k : Nat) (hk : 10 ≤ k) : mastheadlaw01_awake.f k = some true := by
  unfold mastheadlaw01_awake.f
  have h1 := little_tells 258 3 k hk
  have h2 := great_tells 258 3 k hk
  have e : (258 : Int) = ((258 : Nat) : Int) := rfl
  rw [e, h1, h2]
  decide +kernel
theorem num_loop (xs : List Int) (hb : ∀ x ∈ xs, 0 ≤ x ∧ x < 256) (L : Nat) (hL : L ≤ 8) (hLx : L ≤ xs.length) (d : Nat) : ∀ (k i : Nat), i + d = L → d < k →
    octet_Num.l0 k xs (val (xs.take i)) (L : Int) (i : Int) = some (val (xs.take L)) := by
  induction d with
  | zero =>
    intro k i hi hk
    obtain ⟨k, rfl⟩ : ∃ m, k = m + 1 := ⟨k - 1, by omega⟩
    simp only [octet_Num.l0]
    rw [if_neg (by omega), show i = L from by omega]
  | succ d ih =>
    intro k i hi hk
    obtain ⟨k, rfl⟩ : ∃ m, k = m + 1 := ⟨k - 1, by omega⟩
    have hil : i < xs.length := by omega
    simp only [octet_Num.l0]
    have e1 : wrap64 (8 * (i : Int)) = ((8 * i : Nat) : Int) := by rw [wrap64_id (by omega) (by omega)]; simp
    have x1 : rd xs (i : Int) = xs[i] := by simp [rd, hil]
    have hx := hb xs[i] (List.getElem_mem hil)
    have hbt : ∀ x ∈ xs.take i, 0 ≤ x ∧ x < 256 := fun x h => hb x (List.mem_of_mem_take h)
    have hv := val_bounds (xs.take i) hbt
    rw [List.length_take, Nat.min_eq_left (by omega)] at hv
    have hbt' : ∀ x ∈ xs.take (i + 1), 0 ≤ x ∧ x < 256 := fun x h => hb x (List.mem_of_mem_take h)
    have hv' := val_u64 (xs.take (i + 1)) hbt' (by simp; omega)
    have et : val (xs.take (i + 1)) = val (xs.take i) + xs[i] * 256 ^ i := by
      rw [List.take_succ_eq_append_getElem hil, val_append, List.length_take, Nat.min_eq_left (by omega)]
      simp [val, Int.mul_comm]
    have hp : (0 : Int) ≤ xs[i] * 256 ^ i := Int.mul_nonneg hx.1 (Int.pow_nonneg (by decide))
    have p8 : (256 : Int) ^ i = 2 ^ (8 * i) := pow256i i
    have es : shl .u64 (IntKind.u64.wrap (rd xs (i : Int))) ((8 * i : Nat) : Int) = xs[i] * 256 ^ i := by
      rw [x1, u64w_id (by omega) (by omega)]
      unfold shl
      rw [Nat.min_eq_left (by simp [IntKind.bits]; omega)]
      simp only [Int.toNat_natCast]
      rw [← p8, u64w_id hp (by omega)]
    rw [if_pos (by omega), if_pos (by omega), if_pos (by omega), e1, if_pos (by omega), es]
    rw [or64' (8 * i) hv.1 (by rw [← p8]; exact hv.2) (by omega) hp (by rw [p8]; exact Int.mul_emod_left _ _) (by omega)]
    rw [← et, wrap64_succ (by omega)]
    exact ih k (i + 1) (by omega) (by omega)
theorem num_tells (xs : List Int) (hb : ∀ x ∈ xs, 0 ≤ x ∧ x < 256) (k : Nat) (hk : 10 ≤ k) (hl : xs.length < 1000000) : octet_Num.f k xs = some (val (xs.take 8)) := by
  unfold octet_Num.f
  have em : mn (xs.length : Int) 8 = ((min xs.length 8 : Nat) : Int) := by unfold mn; split <;> omega
  have := num_loop xs hb (min xs.length 8) (by omega) (by omega) (min xs.length 8) k 0 (by omega) (by omega)
  rw [em]
  have e2 : xs.take (min xs.length 8) = xs.take 8 := by rw [List.take_eq_take_iff]; omega
  rw [e2] at this
  simpa [val] using this
theorem big_loop (xs : List Int) (hb : ∀ x ∈ xs, 0 ≤ x ∧ x < 256) (L : Nat) (hL : L ≤ 8) (hLx : L ≤ xs.length) (d : Nat) : ∀ (k i : Nat), i + d = L → d < k →
    octet_Big.l0 k xs (val (xs.take i).reverse) (L : Int) (i : Int) = some (val (xs.take L).reverse) := by
  induction d with
  | zero =>
    intro k i hi hk
    obtain ⟨k, rfl⟩ : ∃ m, k = m + 1 := ⟨k - 1, by omega⟩
    simp only [octet_Big.l0]
    rw [if_neg (by omega), show i = L from by omega]
  | succ d ih =>
    intro k i hi hk
    obtain ⟨k, rfl⟩ : ∃ m, k = m + 1 := ⟨k - 1, by omega⟩
    have hil : i < xs.length := by omega
    simp only [octet_Big.l0]
    have x1 : rd xs (i : Int) = xs[i] := by simp [rd, hil]
    have hx := hb xs[i] (List.getElem_mem hil)
    have hbt : ∀ x ∈ (xs.take i).reverse, 0 ≤ x ∧ x < 256 := fun x h => hb x (List.mem_of_mem_take (List.mem_reverse.1 h))
    have hv := val_bounds _ hbt
    have hbt' : ∀ x ∈ (xs.take (i + 1)).reverse, 0 ≤ x ∧ x < 256 := fun x h => hb x (List.mem_of_mem_take (List.mem_reverse.1 h))
    have hv' := val_u64 _ hbt' (by simp; omega)
    have et : val (xs.take (i + 1)).reverse = xs[i] + 256 * val (xs.take i).reverse := by
      rw [List.take_succ_eq_append_getElem hil, List.reverse_append]
      rfl
    rw [if_pos (by omega), if_pos (by omega), if_pos (by omega), x1, u64w_id (by omega) (by omega), u64w_id (by omega) (by omega)]
    rw [or64 8 hx.1 (by omega) (by omega) (by omega) (by omega) (by omega)]
    rw [show val (xs.take i).reverse * 256 + xs[i] = val (xs.take (i + 1)).reverse from by omega, wrap64_succ (by omega)]
    exact ih k (i + 1) (by omega) (by omega)
theorem big_tells (xs : List Int) (hb : ∀ x ∈ xs, 0 ≤ x ∧ x < 256) (k : Nat) (hk : 10 ≤ k) (hl : xs.length < 1000000) : octet_Big.f k xs = some (val (xs.take 8).reverse) := by
  unfold octet_Big.f
  have em : mn (xs.length : Int) 8 = ((min xs.length 8 : Nat) : Int) := by unfold mn; split <;> omega
  have := big_loop xs hb (min xs.length 8) (by omega) (by omega) (min xs.length 8) k 0 (by omega) (by omega)
  rw [em]
  have e2 : xs.take (min xs.length 8) = xs.take 8 := by rw [List.take_eq_take_iff]; omega
  rw [e2] at this
  simpa [val] using this
theorem held_tells (w : Int) : mastheadref01_Held.f w = some (wid w : Int) := by
  unfold mastheadref01_Held.f wid mn mx
  repeat' split
  all_goals first | omega | (simp <;> omega)
theorem j_tells (n : Nat) (w : Int) (k : Nat) (hk : 12 ≤ k) : mastheadlaw01_OctetBack.j0 k (n : Int) w ((n % 256 ^ wid w : Nat) : Int) = some true := by
  obtain ⟨k, rfl⟩ : ∃ m, k = m + 1 := ⟨k - 1, by omega⟩
  have hw := wid_le w
  have hlen := digs_length (wid w) n
  have hb := digs_bytes (wid w) n
  simp only [mastheadlaw01_OctetBack.j0]
  rw [little_tells n w k (by omega), great_tells n w k (by omega)]
  simp only [Option.bind_some]
  rw [num_tells _ hb k (by omega) (by omega), big_tells _ (fun x h => hb x (List.mem_reverse.1 h)) k (by omega) (by simp; omega)]
  simp only [Option.bind_some]
  rw [List.take_of_length_le (by omega), List.take_of_length_le (by simp; omega), List.reverse_reverse, val_digs, if_pos (by trivial), if_pos (by trivial), awake_ok k (by omega)]
  rfl
theorem OctetBack : mastheadlaw01_OctetBack.Pure := by
  intro a0 a1 w0 w1
  obtain ⟨n, rfl, hn⟩ := wf_u64 w0
  have hw := wid_le a1
  refine ⟨30, ?_⟩
  unfold mastheadlaw01_OctetBack.f
  rw [held_tells]
  simp only [Option.bind_some]
  have hj := j_tells n a1 30 (by omega)
  generalize wid a1 = m at *
  by_cases h8 : m < 8
  · have e1 : wrap64 (8 * (m : Int)) = ((8 * m : Nat) : Int) := by rw [wrap64_id (by omega) (by omega)]; simp
    rw [if_pos (by omega), e1, if_pos (by omega)]
    have h1 : (256 : Nat) ^ m ≤ 256 ^ 7 := Nat.pow_le_pow_right (by decide) (by omega)
    have h2 : 0 < (256 : Nat) ^ m := Nat.pow_pos (by decide)
    have es : shl .u64 1 ((8 * m : Nat) : Int) = ((256 ^ m : Nat) : Int) := by
      unfold shl
      rw [Nat.min_eq_left (by simp [IntKind.bits]; omega)]
      simp only [Int.toNat_natCast]
      rw [pow256, Int.one_mul, ← pow256]
      have : ((2 : Int) ^ (8 * m)) = ((256 ^ m : Nat) : Int) := by rw [pow256]; simp
      rw [this, u64w_id (by omega) (by omega)]
    rw [es, if_neg (by omega)]
    have et : Int.tmod (n : Int) ((256 ^ m : Nat) : Int) = ((n % 256 ^ m : Nat) : Int) := by
      rw [Int.tmod_eq_emod_of_nonneg (by omega)]; rfl
    rw [et]
    exact hj
  · obtain rfl : m = 8 := by omega
    rw [if_neg (by omega)]
    have : n % 256 ^ 8 = n := Nat.mod_eq_of_lt (by simpa using hn)
    rw [this] at hj
    exact hj
end Go.Proofs.Ytcgaakbehgpmmaa.Pure
