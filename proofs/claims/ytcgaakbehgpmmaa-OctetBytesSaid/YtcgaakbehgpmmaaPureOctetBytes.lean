/- The bytes of any number, of any width, in either order, are what the document says: for every number and width. -/
import Derived.Test.YtcgaakbehgpmmaaPlain
import Derived.Test.YtcgaakbehgpmmaaMOctetBytesn2
namespace Go.Proofs.Ytcgaakbehgpmmaa.Pure
open Go.RowKit Go.Proofs.Ytcgaakbehgpmmaa.Plain Go.Proofs.Ytcgaakbehgpmmaa.POctetBytes Go.Proofs.YtcgaakbehgpmmaaW.PrintWords Go.Proofs.YtcgaakbehgpmmaaW.PrintLast Go.Proofs.YtcgaakbehgpmmaaW.PrintMore
set_option linter.unusedVariables false
set_option linter.unusedSimpArgs false
theorem little_loop (n L : Nat) (hL : L ≤ 8) (d : Nat) : ∀ (k : Nat) (xs : List Int) (i : Nat), xs.length = L → i + d = L → d < k → octet_Little.l0 k (n : Int) xs (L : Int) (i : Int) = some (xs.take i ++ digs d (n / 256 ^ i)) := by
  induction d with
  | zero =>
    intro k xs i hx hi hk
    obtain ⟨k, rfl⟩ : ∃ m, k = m + 1 := ⟨k - 1, by omega⟩
    simp only [octet_Little.l0]
    rw [if_neg (by omega)]
    simp [digs, List.take_of_length_le (by omega : xs.length ≤ i)]
  | succ d ih =>
    intro k xs i hx hi hk
    obtain ⟨k, rfl⟩ : ∃ m, k = m + 1 := ⟨k - 1, by omega⟩
    simp only [octet_Little.l0]
    have e1 : wrap64 (8 * (i : Int)) = ((8 * i : Nat) : Int) := by rw [wrap64_id (by omega) (by omega)]; simp
    have e2 : wrap64 ((i : Int) + 1) = ((i + 1 : Nat) : Int) := wrap64_succ (by omega)
    rw [if_pos (by omega), e1, if_pos (by omega), if_pos (by omega), if_pos (by omega), e2, ih k _ (i + 1) (by simpa using hx) (by omega) (by omega)]
    rw [show ((i : Int)).toNat = i from by simp, take_set_succ _ _ _ (by omega), shr_byte n i (by omega)]
    simp [digs, List.append_assoc, Nat.pow_succ, Nat.div_div_eq_div_mul]
/-- The width that counts. -/
def wid (w : Int) : Nat := (mn (mx w 0) 8).toNat
theorem wid_le (w : Int) : wid w ≤ 8 := by unfold wid mn mx; split <;> split <;> omega
theorem little_tells (n : Nat) (w : Int) (k : Nat) (hk : 10 ≤ k) : octet_Little.f k (n : Int) w = some (digs (wid w) n) := by
  have hw := wid_le w
  unfold octet_Little.f
  have h0 : 0 ≤ mn (mx w 0) 8 := by unfold mn mx; split <;> split <;> omega
  rw [if_pos h0, if_pos (by unfold wid at hw; omega)]
  simp only [Option.bind_some]
  have e := little_loop n (wid w) hw (wid w) k (List.replicate (wid w) 0) 0 (by simp) (by simp) (by omega)
  simpa [wid] using e
theorem rd_nat (xs : List Int) (i : Nat) : rd xs (i : Int) = xs.getD i 0 := by simp [rd]
theorem reverse_loop (d : Nat) : ∀ (k : Nat) (a m b : List Int), m.length = d → d < k → a.length + d + b.length < 1000000 →
    slices_Reverse_byte_byte.l0 k (a ++ m ++ b) (a.length : Int) ((a.length : Int) + d - 1) = some (a ++ m.reverse ++ b) := by
  induction d using Nat.strongRecOn with
  | _ d ih =>
    intro k a m b hm hk hb
    obtain ⟨k, rfl⟩ : ∃ j, k = j + 1 := ⟨k - 1, by omega⟩
    simp only [slices_Reverse_byte_byte.l0]
    by_cases h : d ≤ 1
    · rw [if_neg (by omega)]
      match m, hm with
      | [], _ => rfl
      | [x], _ => rfl
      | x :: y :: m, hm => simp at hm; omega
    · obtain ⟨x, m1, rfl⟩ : ∃ x m1, m = x :: m1 := by
        cases m with
        | nil => simp at hm; omega
        | cons x m1 => exact ⟨x, m1, rfl⟩
      obtain ⟨m2, y, rfl⟩ : ∃ m2 y, m1 = m2 ++ [y] := by
        have : m1 ≠ [] := by intro e; subst e; simp at hm; omega
        exact ⟨m1.dropLast, m1.getLast this, (List.dropLast_concat_getLast this).symm⟩
      have hl : m2.length + 2 = d := by simp at hm; omega
      have hlen : (a ++ (x :: (m2 ++ [y])) ++ b).length = a.length + d + b.length := by simp; omega
      have ej : ((a.length : Int) + d - 1) = ((a.length + (m2.length + 1) : Nat) : Int) := by omega
      rw [ej]
      rw [if_pos (by omega), if_pos (by omega), if_pos (by omega), if_pos (by omega), if_pos (by omega)]
      rw [rd_nat, rd_nat]
      have r1 : (a ++ (x :: (m2 ++ [y])) ++ b).getD (a.length + (m2.length + 1)) 0 = y := by
        simp [List.getD_eq_getElem?_getD, List.append_assoc]
      have r2 : (a ++ (x :: (m2 ++ [y])) ++ b).getD a.length 0 = x := by
        simp [List.getD_eq_getElem?_getD, List.append_assoc]
      rw [r1, r2]
      have s1 : ((a ++ (x :: (m2 ++ [y])) ++ b).set ((a.length : Int)).toNat y).set (((a.length + (m2.length + 1) : Nat) : Int)).toNat x = (a ++ [y]) ++ m2 ++ (x :: b) := by
        rw [Int.toNat_natCast, Int.toNat_natCast]
        simp [List.append_assoc, List.set_append, Nat.add_sub_cancel_left]
      rw [s1]
      have e1 : wrap64 ((a.length : Int) + 1) = ((a ++ [y]).length : Int) := by rw [wrap64_id (by omega) (by omega)]; simp
      have e2 : wrap64 (((a.length + (m2.length + 1) : Nat) : Int) - 1) = ((a ++ [y]).length : Int) + (m2.length : Nat) - 1 := by
        rw [wrap64_id (by omega) (by omega)]; simp; omega
      rw [e1, e2, ih m2.length (by omega) k (a ++ [y]) m2 (x :: b) rfl (by omega) (by simp; omega)]
      simp [List.append_assoc]
theorem reverse_tells (xs : List Int) (k : Nat) (hk : xs.length < k) (hl : xs.length < 1000000) : slices_Reverse_byte_byte.f k xs = some xs.reverse := by
  unfold slices_Reverse_byte_byte.f
  have := reverse_loop xs.length k [] xs [] rfl hk (by simpa using hl)
  rw [wrap64_id (by omega) (by omega)]
  simpa using this
theorem great_tells (n : Nat) (w : Int) (k : Nat) (hk : 10 ≤ k) : octet_Great.f k (n : Int) w = some (digs (wid w) n).reverse := by
  have hw := wid_le w
  unfold octet_Great.f
  rw [little_tells n w k hk]
  simp only [Option.bind_some]
  rw [reverse_tells _ k (by rw [digs_length]; omega) (by rw [digs_length]; omega)]
  rfl
theorem awake_ok (k : Nat) (hk : 10 ≤ k) : mastheadlaw01_awake.f k = some true := by
  unfold mastheadlaw01_awake.f
  have h1 := little_tells 258 3 k hk
  have h2 := great_tells 258 3 k hk
  have e : (258 : Int) = ((258 : Nat) : Int) := rfl
  rw [e, h1, h2]
  decide +kernel
theorem digits_loop (d : Nat) : ∀ (k n : Nat) (w : Nat) (out : List Int) (i : Nat), n < 18446744073709551616 → w ≤ 8 → out.length ≤ i → i + d = w → d < k →
    mastheadref01_Digits.l0 k (n : Int) (w : Int) out (i : Int) = some (out ++ digs d n) := by
  induction d with
  | zero =>
    intro k n w out i hn hw ho hi hk
    obtain ⟨k, rfl⟩ : ∃ m, k = m + 1 := ⟨k - 1, by omega⟩
    simp only [mastheadref01_Digits.l0]
    rw [if_neg (by omega)]
    simp [digs]
  | succ d ih =>
    intro k n w out i hn hw ho hi hk
    obtain ⟨k, rfl⟩ : ∃ m, k = m + 1 := ⟨k - 1, by omega⟩
    simp only [mastheadref01_Digits.l0]
    have e1 : IntKind.u64.wrap (Int.tdiv (n : Int) 256) = ((n / 256 : Nat) : Int) := by
      have : Int.tdiv (n : Int) 256 = ((n / 256 : Nat) : Int) := by rw [Int.tdiv_eq_ediv_of_nonneg (by omega)]; simp
      rw [this, u64w_id (by omega) (by omega)]
    have e2 : wrap64 (Int.tmod (n : Int) 256) = ((n % 256 : Nat) : Int) := by
      rw [Int.tmod_eq_emod_of_nonneg (by omega), wrap64_id (by omega) (by omega)]; simp
    rw [if_pos (by omega), if_pos (by omega), e1, e2, wrap64_succ (by omega), ih k (n / 256) w _ (i + 1) (by omega) hw (by simp; omega) (by omega) (by omega)]
    simp [digs]
theorem held_tells (w : Int) : mastheadref01_Held.f w = some (wid w : Int) := by
  unfold mastheadref01_Held.f wid mn mx
  repeat' split
  all_goals first | omega | (simp <;> omega)
theorem law_loop (want : List Int) (hw : want.length ≤ 8) (hb : ∀ x ∈ want, 0 ≤ x ∧ x < 256) (d : Nat) : ∀ (k i : Nat), i + d = want.length → d + 12 < k →
    mastheadlaw01_OctetBytes.l0 k want want want.reverse (want.length : Int) (i : Int) = some true := by
  induction d with
  | zero =>
    intro k i hi hk
    obtain ⟨k, rfl⟩ : ∃ m, k = m + 1 := ⟨k - 1, by omega⟩
    simp only [mastheadlaw01_OctetBytes.l0]
    rw [if_neg (by omega), awake_ok k (by omega)]
    rfl
  | succ d ih =>
    intro k i hi hk
    obtain ⟨k, rfl⟩ : ∃ m, k = m + 1 := ⟨k - 1, by omega⟩
    have hil : i < want.length := by omega
    simp only [mastheadlaw01_OctetBytes.l0]
    have e1 : wrap64 ((want.reverse.length : Int) - 1) = ((want.length - 1 : Nat) : Int) := by
      rw [List.length_reverse, wrap64_id (by omega) (by omega)]; omega
    have e2 : wrap64 (((want.length - 1 : Nat) : Int) - (i : Int)) = ((want.length - 1 - i : Nat) : Int) := by
      rw [wrap64_id (by omega) (by omega)]; omega
    have x1 : rd want (i : Int) = want[i] := by simp [rd, hil]
    have hx := hb want[i] (List.getElem_mem hil)
    have x2 : rd want.reverse ((want.length - 1 - i : Nat) : Int) = want[i] := by
      rw [rd_nat, List.getD_eq_getElem?_getD, List.getElem?_eq_getElem (by simp; omega), Option.getD_some, List.getElem_reverse]
      congr 1
      omega
    rw [e1, e2, x1, x2, wrap64_id (by omega) (by omega)]
    simp only [List.length_reverse]
    rw [if_pos (by omega), if_pos (by omega), if_pos (by omega), if_pos (by omega), if_pos (by trivial), if_pos (by omega), if_pos (by omega), if_pos (by trivial), wrap64_succ (by omega)]
    exact ih k (i + 1) (by omega) (by omega)
theorem OctetBytes : mastheadlaw01_OctetBytes.Pure := by
  intro a0 a1 w0 w1
  obtain ⟨n, rfl, hn⟩ := wf_u64 w0
  have hw := wid_le a1
  refine ⟨30, ?_⟩
  unfold mastheadlaw01_OctetBytes.f
  rw [held_tells]
  simp only [Option.bind_some]
  have hd : mastheadref01_Digits.f 30 (n : Int) (wid a1 : Int) = some (digs (wid a1) n) := by
    have := digits_loop (wid a1) 30 n (wid a1) [] 0 hn hw (by simp) (by simp) (by omega)
    simpa [mastheadref01_Digits.f] using this
  rw [hd, little_tells n a1 30 (by omega), great_tells n a1 30 (by omega)]
  simp only [Option.bind_some]
  rw [if_pos (by trivial)]
  have hlen := digs_length (wid a1) n
  have hb := digs_bytes (wid a1) n
  generalize digs (wid a1) n = want at *
  simp only [mastheadlaw01_OctetBytes.j0]
  have e : ((want.reverse.length : Int) != (want.length : Int)) = false := by simp
  rw [e, if_neg (by simp)]
  exact law_loop want (by omega) hb want.length 29 0 (by simp) (by omega)
end Go.Proofs.Ytcgaakbehgpmmaa.Pure
