/- Bits turned by any number of places, to either side, are what the document says, and turned back they are what they were: for every number and every count. -/
import Derived.Test.YtcgaakbehgpmmaaPlain
import Derived.Test.YtcgaakbehgpmmaaMOctetTurnsn2
namespace Go.Proofs.Ytcgaakbehgpmmaa.Pure
open Go.RowKit Go.Proofs.Ytcgaakbehgpmmaa.Plain Go.Proofs.Ytcgaakbehgpmmaa.POctetTurns Go.Proofs.YtcgaakbehgpmmaaW.PrintWords Go.Proofs.YtcgaakbehgpmmaaW.PrintLast Go.Proofs.YtcgaakbehgpmmaaW.PrintMore
set_option linter.unusedVariables false
set_option linter.unusedSimpArgs false
theorem little_loop (n L : Nat) (hL : L ≤ 8) (d : Nat) : ∀ (k : Nat) (xs : List Int) (i : Nat), xs.length = L → i + d = L → d < k → octet_Little.l0 k (n : Int) xs (L : Int) (i : Int) = some (xs.take i ++ digs d (n / 256 ^ i)) := by
  induction d with
  | zero =>
    intro k xs i hx hi hk
    obtain ⟨k, rfl⟩ : ∃ m, k = m + 1 := ⟨k - 1, by omega⟩
    simp only [octet_Little.l0]
    rw [if_neg (by omega)]
    simp [digs, List.take_of_length_le (by omega : xs.length ≤ i)]
  | succ d ih =>
    intro k xs i hx hi hk
    obtain ⟨k, rfl⟩ : ∃ m, k = m + 1 := ⟨k - 1, by omega⟩
    simp only [octet_Little.l0]
    have e1 : wrap64 (8 * (i : Int)) = ((8 * i : Nat) : Int) := by rw [wrap64_id (by omega) (by omega)]; simp
    have e2 : wrap64 ((i : Int) + 1) = ((i + 1 : Nat) : Int) := wrap64_succ (by omega)
    rw [if_pos (by omega), e1, if_pos (by omega), if_pos (by omega), if_pos (by omega), e2, ih k _ (i + 1) (by simpa using hx) (by omega) (by omega)]
    rw [show ((i : Int)).toNat = i from by simp, take_set_succ _ _ _ (by omega), shr_byte n i (by omega)]
    simp [digs, List.append_assoc, Nat.pow_succ, Nat.div_div_eq_div_mul]
/-- The width that counts. -/
def wid (w : Int) : Nat := (mn (mx w 0) 8).toNat
theorem wid_le (w : Int) : wid w ≤ 8 := by unfold wid mn mx; split <;> split <;> omega
theorem little_tells (n : Nat) (w : Int) (k : Nat) (hk : 10 ≤ k) : octet_Little.f k (n : Int) w = some (digs (wid w) n) := by
  have hw := wid_le w
  unfold octet_Little.f
  have h0 : 0 ≤ mn (mx w 0) 8 := by unfold mn mx; split <;> split <;> omega
  rw [if_pos h0, if_pos (by unfold wid at hw; omega)]
  simp only [Option.bind_some]
  have e := little_loop n (wid w) hw (wid w) k (List.replicate (wid w) 0) 0 (by simp) (by simp) (by omega)
  simpa [wid] using e
theorem rd_nat (xs : List Int) (i : Nat) : rd xs (i : Int) = xs.getD i 0 := by simp [rd]
theorem reverse_loop (d : Nat) : ∀ (k : Nat) (a m b : List Int), m.length = d → d < k → a.length + d + b.length < 1000000 →
    slices_Reverse_byte_byte.l0 k (a ++ m ++ b) (a.length : Int) ((a.length : Int) + d - 1) = some (a ++ m.reverse ++ b) := by
  induction d using Nat.strongRecOn with
  | _ d ih =>
    intro k a m b hm hk hb
    obtain ⟨k, rfl⟩ : ∃ j, k = j + 1 := ⟨k - 1, by omega⟩
    simp only [slices_Reverse_byte_byte.l0]
    by_cases h : d ≤ 1
    · rw [if_neg (by omega)]
      match m, hm with
      | [], _ => rfl
      | [x], _ => rfl
      | x :: y :: m, hm => simp at hm; omega
    · obtain ⟨x, m1, rfl⟩ : ∃ x m1, m = x :: m1 := by
        cases m with
        | nil => simp at hm; omega
        | cons x m1 => exact ⟨x, m1, rfl⟩
      obtain ⟨m2, y, rfl⟩ : ∃ m2 y, m1 = m2 ++ [y] := by
        have : m1 ≠ [] := by intro e; subst e; simp at hm; omega
        exact ⟨m1.dropLast, m1.getLast this, (List.dropLast_concat_getLast this).symm⟩
      have hl : m2.length + 2 = d := by simp at hm; omega
      have hlen : (a ++ (x :: (m2 ++ [y])) ++ b).length = a.length + d + b.length := by simp; omega
      have ej : ((a.length : Int) + d - 1) = ((a.length + (m2.length + 1) : Nat) : Int) := by omega
      rw [ej]
      rw [if_pos (by omega), if_pos (by omega), if_pos (by omega), if_pos (by omega), if_pos (by omega)]
      rw [rd_nat, rd_nat]
      have r1 : (a ++ (x :: (m2 ++ [y])) ++ b).getD (a.length + (m2.length + 1)) 0 = y := by
        simp [List.getD_eq_getElem?_getD, List.append_assoc]
      have r2 : (a ++ (x :: (m2 ++ [y])) ++ b).getD a.length 0 = x := by
        simp [List.getD_eq_getElem?_getD, List.append_assoc]
      rw [r1, r2]
      have s1 : ((a ++ (x :: (m2 ++ [y])) ++ b).set ((a.length : Int)).toNat y).set (((a.length + (m2.length + 1) : Nat) : Int)).toNat x = (a ++ [y]) ++ m2 ++ (x :: b) := by
        rw [Int.toNat_natCast, Int.toNat_natCast]
        simp [List.append_assoc, List.set_append, Nat.add_sub_cancel_left]
      rw [s1]
      have e1 : wrap64 ((a.length : Int) + 1) = ((a ++ [y]).length : Int) := by rw [wrap64_id (by omega) (by omega)]; simp
      have e2 : wrap64 (((a.length + (m2.length + 1) : Nat) : Int) - 1) = ((a ++ [y]).length : Int) + (m2.length : Nat) - 1 := by
        rw [wrap64_id (by omega) (by omega)]; simp; omega
      rw [e1, e2, ih m2.length (by omega) k (a ++ [y]) m2 (x :: b) rfl (by omega) (by simp; omega)]
      simp [List.append_assoc]
theorem reverse_tells (xs : List Int) (k : Nat) (hk : xs.length < k) (hl : xs.length < 1000000) : slices_Reverse_byte_byte.f k xs = some xs.reverse := by
  unfold slices_Reverse_byte_byte.f
  have := reverse_loop xs.length k [] xs [] rfl hk (by simpa using hl)
  rw [wrap64_id (by omega) (by omega)]
  simpa using this
theorem great_tells (n : Nat) (w : Int) (k : Nat) (hk : 10 ≤ k) : octet_Great.f k (n : Int) w = some (digs (wid w) n).reverse := by
  have hw := wid_le w
  unfold octet_Great.f
  rw [little_tells n w k hk]
  simp only [Option.bind_some]
  rw [reverse_tells _ k (by rw [digs_length]; omega) (by rw [digs_length]; omega)]
  rfl
theorem awake_ok (k : Nat) (hk : 10 ≤ k) : mastheadlaw01_awake.f k = some true := by
  unfold mastheadlaw01_awake.f
  have h1 := little_tells 258 3 k hk
  have h2 := great_tells 258 3 k hk
  have e : (258 : Int) = ((258 : Nat) : Int) := rfl
  rw [e, h1, h2]
  decide +kernel
/-- x of N bits, turned to the left by s. -/
def rot (N s x : Nat) : Nat := x % 2 ^ (N - s) * 2 ^ s + x / 2 ^ (N - s)
theorem divmod_of {r c M e : Nat} (h : r = c * M + e) (he : e < M) : r / M = c ∧ r % M = e := by
  subst h
  have hM : 0 < M := by omega
  constructor
  · rw [Nat.mul_comm, Nat.mul_add_div hM, Nat.div_eq_of_lt he]; omega
  · rw [Nat.mul_comm, Nat.mul_add_mod, Nat.mod_eq_of_lt he]
theorem split_pow {N s : Nat} (h : s ≤ N) : 2 ^ (N - s) * 2 ^ s = 2 ^ N := by rw [← Nat.pow_add]; congr 1; omega
theorem quo_lt {N s x : Nat} (h : s ≤ N) (hx : x < 2 ^ N) : x / 2 ^ (N - s) < 2 ^ s := by
  rw [Nat.div_lt_iff_lt_mul (Nat.two_pow_pos _), Nat.mul_comm, split_pow h]; exact hx
theorem rot_lt {N s x : Nat} (h : s ≤ N) (hx : x < 2 ^ N) : rot N s x < 2 ^ N := by
  have h1 := quo_lt h hx
  have h2 := Nat.mod_lt x (Nat.two_pow_pos (N - s))
  have h3 := split_pow h
  unfold rot
  have h4 : (x % 2 ^ (N - s) + 1) * 2 ^ s ≤ 2 ^ (N - s) * 2 ^ s := Nat.mul_le_mul_right _ h2
  rw [Nat.add_mul] at h4
  omega
theorem rot_zero (N x : Nat) (hx : x < 2 ^ N) : rot N 0 x = x := by
  unfold rot
  simp [Nat.div_eq_of_lt hx, Nat.mod_eq_of_lt hx]
theorem rot_back {N s x : Nat} (h : s ≤ N) (hx : x < 2 ^ N) : rot N (N - s) (rot N s x) = x := by
  have h1 := quo_lt h hx
  obtain ⟨e1, e2⟩ := divmod_of (r := rot N s x) rfl h1
  have hd := Nat.div_add_mod x (2 ^ (N - s))
  show rot N s x % 2 ^ (N - (N - s)) * 2 ^ (N - s) + rot N s x / 2 ^ (N - (N - s)) = x
  rw [show N - (N - s) = s from by omega, e1, e2, Nat.mul_comm]
  exact hd
theorem rot_forth {N s x : Nat} (h : s ≤ N) (hx : x < 2 ^ N) : rot N s (rot N (N - s) x) = x := by
  have := rot_back (N := N) (s := N - s) (x := x) (by omega) hx
  rwa [show N - (N - s) = s from by omega] at this
theorem rot_step {N i x : Nat} (h : i < N) (hx : x < 2 ^ N) : rot N i x % 2 ^ (N - 1) * 2 + rot N i x / 2 ^ (N - 1) = rot N (i + 1) x := by
  have hA : 2 ^ (N - i) = 2 ^ (N - (i + 1)) * 2 := by rw [← Nat.pow_succ]; congr 1; omega
  have hAB : 2 ^ (N - (i + 1)) * 2 ^ i = 2 ^ (N - 1) := by rw [← Nat.pow_add]; congr 1; omega
  have hq := quo_lt (s := i + 1) h hx
  have hd := Nat.mod_lt x (Nat.two_pow_pos (N - (i + 1)))
  have hx1 := Nat.div_add_mod x (2 ^ (N - (i + 1)))
  have hB : 2 ^ (i + 1) = 2 ^ i * 2 := Nat.pow_succ ..
  have e0 : rot N i x = (x / 2 ^ (N - (i + 1)) % 2) * 2 ^ (N - 1) + (x % 2 ^ (N - (i + 1)) * 2 ^ i + x / 2 ^ (N - (i + 1)) / 2) := by
    unfold rot
    rw [hA, ← Nat.div_div_eq_div_mul, Nat.mod_mul, Nat.add_mul, ← hAB]
    rw [Nat.mul_comm (2 ^ (N - (i + 1))) (x / 2 ^ (N - (i + 1)) % 2), Nat.mul_assoc]
    omega
  have hlt : x % 2 ^ (N - (i + 1)) * 2 ^ i + x / 2 ^ (N - (i + 1)) / 2 < 2 ^ (N - 1) := by
    have h4 : (x % 2 ^ (N - (i + 1)) + 1) * 2 ^ i ≤ 2 ^ (N - (i + 1)) * 2 ^ i := Nat.mul_le_mul_right _ hd
    rw [Nat.add_mul, hAB] at h4
    omega
  obtain ⟨e1, e2⟩ := divmod_of e0 hlt
  rw [e1, e2]
  unfold rot
  rw [hB, ← Nat.mul_assoc]
  omega
theorem shl32 (x s : Nat) (hs : s ≤ 32) : shl .u32 (x : Int) (s : Int) = ((x % 2 ^ (32 - s) * 2 ^ s : Nat) : Int) := by
  unfold shl
  rw [Nat.min_eq_left (by simp [IntKind.bits]; omega)]
  simp only [Int.toNat_natCast]
  rw [IntKind.wrap_u32, ← Nat.mul_mod_mul_right, split_pow hs]
  simp
theorem shl64 (x s : Nat) (hs : s ≤ 64) : shl .u64 (x : Int) (s : Int) = ((x % 2 ^ (64 - s) * 2 ^ s : Nat) : Int) := by
  unfold shl
  rw [Nat.min_eq_left (by simp [IntKind.bits]; omega)]
  simp only [Int.toNat_natCast]
  rw [IntKind.wrap_u64, ← Nat.mul_mod_mul_right, split_pow hs]
  simp
theorem shr32 (x s : Nat) (hs : s ≤ 32) : shr .u32 (x : Int) (s : Int) = ((x / 2 ^ s : Nat) : Int) := by
  unfold shr
  rw [Nat.min_eq_left (by simp [IntKind.bits]; omega)]
  simp
theorem shr64 (x s : Nat) (hs : s ≤ 64) : shr .u64 (x : Int) (s : Int) = ((x / 2 ^ s : Nat) : Int) := by
  unfold shr
  rw [Nat.min_eq_left (by simp [IntKind.bits]; omega)]
  simp
theorem high_lt {N s x : Nat} (h : s ≤ N) : x % 2 ^ (N - s) * 2 ^ s < 2 ^ N := by
  have hd := Nat.mod_lt x (Nat.two_pow_pos (N - s))
  rw [← split_pow h]
  exact Nat.mul_lt_mul_of_pos_right hd (Nat.two_pow_pos s)
/-- How many places a count stands for. -/
theorem places32 (a : Int) : ∃ s : Nat, s < 32 ∧ (s : Int) = a % 32 ∧ Int.tmod (IntKind.u64.wrap a) 32 = (s : Int) := by
  refine ⟨(a % 32).toNat, by omega, by omega, ?_⟩
  rw [IntKind.wrap_u64, Int.tmod_eq_emod_of_nonneg (by omega)]
  omega
theorem places64 (a : Int) : ∃ s : Nat, s < 64 ∧ (s : Int) = a % 64 ∧ Int.tmod (IntKind.u64.wrap a) 64 = (s : Int) := by
  refine ⟨(a % 64).toNat, by omega, by omega, ?_⟩
  rw [IntKind.wrap_u64, Int.tmod_eq_emod_of_nonneg (by omega)]
  omega
theorem left32_tells (x : Nat) (hx : x < 2 ^ 32) (a : Int) (s : Nat) (hs : s < 32) (ha : (s : Int) = a % 32) : octet_Left32.f (x : Int) a = some ((rot 32 s x : Nat) : Int) := by
  obtain ⟨t, ht, hta, htm⟩ := places32 a
  obtain rfl : t = s := by omega
  unfold octet_Left32.f
  have e : IntKind.u64.wrap (32 - (t : Int)) = ((32 - t : Nat) : Int) := by rw [u64w_id (by omega) (by omega)]; omega
  rw [htm, if_pos (by omega), e, if_pos (by omega), shl32 x t (by omega), shr32 x (32 - t) (by omega)]
  have h1 := quo_lt (N := 32) (s := t) (by omega) hx
  have h2 := high_lt (N := 32) (s := t) (x := x) (by omega)
  have h3 : (2 : Nat) ^ t ≤ 2 ^ 32 := two_pow_mono (by omega)
  have h5 : rot 32 t x = x % 2 ^ (32 - t) * 2 ^ t + x / 2 ^ (32 - t) := rfl
  have h6 : (x % 2 ^ (32 - t) * 2 ^ t) % 2 ^ t = 0 := Nat.mul_mod_left _ _
  rw [h5]
  generalize x % 2 ^ (32 - t) * 2 ^ t = B at *
  generalize x / 2 ^ (32 - t) = A at *
  rw [or32 t (by omega) (by exact_mod_cast h1) (by omega) (by omega) (by exact_mod_cast h6) (by omega)]
  simp
theorem right32_tells (x : Nat) (hx : x < 2 ^ 32) (a : Int) (s : Nat) (hs : s < 32) (ha : (s : Int) = a % 32) : octet_Right32.f (x : Int) a = some ((rot 32 (32 - s) x : Nat) : Int) := by
  obtain ⟨t, ht, hta, htm⟩ := places32 a
  obtain rfl : t = s := by omega
  unfold octet_Right32.f
  have e : IntKind.u64.wrap (32 - (t : Int)) = ((32 - t : Nat) : Int) := by rw [u64w_id (by omega) (by omega)]; omega
  rw [htm, if_pos (by omega), e, if_pos (by omega), shl32 x (32 - t) (by omega), shr32 x t (by omega)]
  have h1 := quo_lt (N := 32) (s := 32 - t) (by omega) hx
  have h2 := high_lt (N := 32) (s := 32 - t) (x := x) (by omega)
  have h3 : (2 : Nat) ^ (32 - t) ≤ 2 ^ 32 := two_pow_mono (by omega)
  have e3 : 32 - (32 - t) = t := by omega
  have h5 : rot 32 (32 - t) x = x % 2 ^ (32 - (32 - t)) * 2 ^ (32 - t) + x / 2 ^ (32 - (32 - t)) := rfl
  have h6 : (x % 2 ^ (32 - (32 - t)) * 2 ^ (32 - t)) % 2 ^ (32 - t) = 0 := Nat.mul_mod_left _ _
  rw [h5]
  rw [e3] at h1 h2 h6 ⊢
  generalize x % 2 ^ t * 2 ^ (32 - t) = B at *
  generalize x / 2 ^ t = A at *
  rw [or32' (32 - t) (by omega) (by exact_mod_cast h1) (by omega) (by omega) (by exact_mod_cast h6) (by omega)]
  simp [Int.add_comm]
theorem left64_tells (x : Nat) (hx : x < 2 ^ 64) (a : Int) (s : Nat) (hs : s < 64) (ha : (s : Int) = a % 64) : octet_Left64.f (x : Int) a = some ((rot 64 s x : Nat) : Int) := by
  obtain ⟨t, ht, hta, htm⟩ := places64 a
  obtain rfl : t = s := by omega
  unfold octet_Left64.f
  have e : IntKind.u64.wrap (64 - (t : Int)) = ((64 - t : Nat) : Int) := by rw [u64w_id (by omega) (by omega)]; omega
  rw [htm, if_pos (by omega), e, if_pos (by omega), shl64 x t (by omega), shr64 x (64 - t) (by omega)]
  have h1 := quo_lt (N := 64) (s := t) (by omega) hx
  have h2 := high_lt (N := 64) (s := t) (x := x) (by omega)
  have h3 : (2 : Nat) ^ t ≤ 2 ^ 64 := two_pow_mono (by omega)
  have h5 : rot 64 t x = x % 2 ^ (64 - t) * 2 ^ t + x / 2 ^ (64 - t) := rfl
  have h6 : (x % 2 ^ (64 - t) * 2 ^ t) % 2 ^ t = 0 := Nat.mul_mod_left _ _
  rw [h5]
  generalize x % 2 ^ (64 - t) * 2 ^ t = B at *
  generalize x / 2 ^ (64 - t) = A at *
  rw [or64 t (by omega) (by exact_mod_cast h1) (by omega) (by omega) (by exact_mod_cast h6) (by omega)]
  simp
theorem ref_turns (N : Nat) (hN0 : 1 ≤ N) (hN : N ≤ 64) (x n : Nat) (hx : x < 2 ^ N) (hn : n < N) (d : Nat) : ∀ (k i : Nat), i + d = n → d < k →
    mastheadref01_Left.l1 k ((rot N i x : Nat) : Int) (n : Int) ((2 ^ (N - 1) : Nat) : Int) (i : Int) = some ((rot N n x : Nat) : Int) := by
  have hp : (2 : Nat) ^ N ≤ 2 ^ 64 := two_pow_mono hN
  have hp1 : (2 : Nat) ^ (N - 1) * 2 = 2 ^ N := by rw [← Nat.pow_succ]; congr 1; omega
  have hp0 : 0 < (2 : Nat) ^ (N - 1) := Nat.two_pow_pos _
  induction d with
  | zero =>
    intro k i hi hk
    obtain ⟨k, rfl⟩ : ∃ m, k = m + 1 := ⟨k - 1, by omega⟩
    simp only [mastheadref01_Left.l1]
    rw [if_neg (by omega), show i = n from by omega]
  | succ d ih =>
    intro k i hi hk
    obtain ⟨k, rfl⟩ : ∃ m, k = m + 1 := ⟨k - 1, by omega⟩
    simp only [mastheadref01_Left.l1]
    have hr := rot_lt (N := N) (s := i) (by omega) hx
    have hs := rot_step (N := N) (i := i) (by omega) hx
    have hr' := rot_lt (N := N) (s := i + 1) (by omega) hx
    have hm := Nat.mod_lt (rot N i x) hp0
    have hq : rot N i x / 2 ^ (N - 1) ≤ rot N i x := Nat.div_le_self _ _
    have t1 : Int.tmod ((rot N i x : Nat) : Int) ((2 ^ (N - 1) : Nat) : Int) = ((rot N i x % 2 ^ (N - 1) : Nat) : Int) := by
      rw [Int.tmod_eq_emod_of_nonneg (by omega)]; rfl
    have t2 : Int.tdiv ((rot N i x : Nat) : Int) ((2 ^ (N - 1) : Nat) : Int) = ((rot N i x / 2 ^ (N - 1) : Nat) : Int) := by
      rw [Int.tdiv_eq_ediv_of_nonneg (by omega)]; rfl
    have hq0 : (0 : Int) ≤ ((rot N i x / 2 ^ (N - 1) : Nat) : Int) := Int.natCast_nonneg _
    have hm0 : (0 : Int) ≤ ((rot N i x % 2 ^ (N - 1) : Nat) : Int) := Int.natCast_nonneg _
    rw [if_pos (by omega), if_neg (by omega), t1, t2, u64w_id (n := ((rot N i x % 2 ^ (N - 1) : Nat) : Int) * 2) (by omega) (by omega),
      u64w_id (n := ((rot N i x / 2 ^ (N - 1) : Nat) : Int)) (by omega) (by omega),
      show ((rot N i x % 2 ^ (N - 1) : Nat) : Int) * 2 + ((rot N i x / 2 ^ (N - 1) : Nat) : Int) = ((rot N (i + 1) x : Nat) : Int) from by omega,
      u64w_id (by omega) (by omega), wrap64_succ (by omega)]
    exact ih k (i + 1) (by omega) (by omega)
theorem ref_top (N : Nat) (hN0 : 1 ≤ N) (hN : N ≤ 64) (x n : Nat) (hx : x < 2 ^ N) (hn : n < N) (d : Nat) : ∀ (k i : Nat), i + 1 + d = N → d + n + 1 < k →
    mastheadref01_Left.l0 k (x : Int) (N : Int) (n : Int) ((2 ^ i : Nat) : Int) ((i + 1 : Nat) : Int) = some ((rot N n x : Nat) : Int) := by
  induction d with
  | zero =>
    intro k i hi hk
    obtain ⟨k, rfl⟩ : ∃ m, k = m + 1 := ⟨k - 1, by omega⟩
    simp only [mastheadref01_Left.l0]
    rw [if_neg (by omega), show i = N - 1 from by omega]
    have := ref_turns N hN0 hN x n hx hn n k 0 (by omega) (by omega)
    rw [rot_zero N x hx] at this
    exact this
  | succ d ih =>
    intro k i hi hk
    obtain ⟨k, rfl⟩ : ∃ m, k = m + 1 := ⟨k - 1, by omega⟩
    simp only [mastheadref01_Left.l0]
    have h3 : (2 : Nat) ^ (i + 1) ≤ 2 ^ 63 := two_pow_mono (by omega)
    have e : IntKind.u64.wrap (((2 ^ i : Nat) : Int) * 2) = ((2 ^ (i + 1) : Nat) : Int) := by
      rw [Nat.pow_succ] at h3 ⊢
      rw [u64w_id (by omega) (by omega)]; omega
    rw [if_pos (by omega), e, wrap64_succ (by omega)]
    exact ih k (i + 1) (by omega) (by omega)
theorem ref_tells (N : Nat) (hN0 : 1 ≤ N) (hN : N ≤ 64) (x : Nat) (hx : x < 2 ^ N) (a : Int) (n : Nat) (hn : n < N) (ha : (n : Int) = a % N) (k : Nat) (hk : 200 ≤ k) :
    mastheadref01_Left.f k (x : Int) (N : Int) a = some ((rot N n x : Nat) : Int) := by
  unfold mastheadref01_Left.f
  have hj : mastheadref01_Left.j0 k (x : Int) (N : Int) (n : Int) = some ((rot N n x : Nat) : Int) := by
    obtain ⟨k, rfl⟩ : ∃ m, k = m + 1 := ⟨k - 1, by omega⟩
    simp only [mastheadref01_Left.j0]
    have := ref_top N hN0 hN x n hx hn (N - 1) k 0 (by omega) (by omega)
    simpa using this
  rw [if_neg (by omega)]
  rw [Int.tmod_eq_emod] 
  by_cases h : 0 ≤ a ∨ (N : Int) ∣ a
  · rw [if_pos h, show ((0 : Nat) : Int) = 0 from rfl, Int.sub_zero, ← ha, if_neg (by omega)]
    exact hj
  · rw [if_neg h, ← ha]
    rw [show ((Int.natAbs (N : Int) : Nat) : Int) = (N : Int) from by simp]
    rw [if_pos (by omega), wrap64_id (by omega) (by omega), show (n : Int) - (N : Int) + (N : Int) = n from by omega]
    exact hj
theorem OctetTurns : mastheadlaw01_OctetTurns.Pure := by
  intro a0 a1 w0 w1
  obtain ⟨x, rfl, hx⟩ := wf_u64 w0
  have hb := wf_i64 w1
  refine ⟨300, ?_⟩
  unfold mastheadlaw01_OctetTurns.f
  have ey : (x : Int) % 4294967296 = ((x % 4294967296 : Nat) : Int) := by simp
  have hy : x % 4294967296 < 2 ^ 32 := Nat.mod_lt _ (by decide)
  have hx' : x < 2 ^ 64 := hx
  rw [ey]
  generalize x % 4294967296 = y at *
  obtain ⟨s, hs, hsa, _⟩ := places32 a1
  obtain ⟨t, ht, hta, _⟩ := places64 a1
  have r1 : mastheadref01_Left.f 300 (y : Int) 32 a1 = some ((rot 32 s y : Nat) : Int) := ref_tells 32 (by omega) (by omega) y hy a1 s hs hsa 300 (by omega)
  have r2 : mastheadref01_Left.f 300 (x : Int) 64 a1 = some ((rot 64 t x : Nat) : Int) := ref_tells 64 (by omega) (by omega) x hx' a1 t ht hta 300 (by omega)
  have hl := rot_lt (N := 32) (s := s) (by omega) hy
  have hr := rot_lt (N := 32) (s := 32 - s) (by omega) hy
  have hc := rot_lt (N := 64) (s := t) (by omega) hx'
  rw [left32_tells y hy a1 s hs hsa, right32_tells y hy a1 s hs hsa, left64_tells x hx' a1 t ht hta]
  simp only [Option.bind_some]
  rw [r1, r2]
  simp only [Option.bind_some]
  rw [u64w_id (by omega) (by omega), if_pos (by trivial), show ((((rot 64 t x : Nat) : Int)) != ((rot 64 t x : Nat) : Int)) = false from by simp]
  simp only [mastheadlaw01_OctetTurns.j0]
  rw [if_neg (by simp), right32_tells _ hl a1 s hs hsa, left32_tells _ hr a1 s hs hsa]
  simp only [Option.bind_some]
  rw [rot_back (by omega) hy, rot_forth (by omega) hy, if_pos (by trivial), if_pos (by trivial)]
  have hm : Int.tmod a1 64 = a1 % 64 ∨ Int.tmod a1 64 = a1 % 64 - 64 := by
    rw [Int.tmod_eq_emod]
    split
    · left; omega
    · right; rfl
  have hlast : octet_Left64.f ((rot 64 t x : Nat) : Int) (wrap64 (64 - Int.tmod a1 64)) = some (x : Int) := by
    have hw : wrap64 (64 - Int.tmod a1 64) = 64 - Int.tmod a1 64 := wrap64_id (by omega) (by omega)
    rw [hw]
    by_cases h0 : t = 0
    · subst h0
      rw [left64_tells _ hc _ 0 (by omega) (by omega), rot_zero 64 _ (by rw [rot_zero 64 x hx']; exact hx'), rot_zero 64 x hx']
    · rw [left64_tells _ hc _ (64 - t) (by omega) (by omega), rot_back (by omega) hx']
  rw [hlast, awake_ok 299 (by omega)]
  simp
end Go.Proofs.Ytcgaakbehgpmmaa.Pure
