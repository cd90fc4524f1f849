/- Any text is just one bytes' digits, or none's: for every text. -/
import Derived.Test.YtcgaakbehgpmmaaPlain
import Derived.Test.YtcgaakbehgpmmaaMOctetReadsn3
namespace Go.Proofs.Ytcgaakbehgpmmaa.Pure
open Go.RowKit Go.Proofs.Ytcgaakbehgpmmaa.Plain Go.Proofs.Ytcgaakbehgpmmaa.POctetReads Go.Proofs.YtcgaakbehgpmmaaW.PrintWords Go.Proofs.YtcgaakbehgpmmaaW.PrintLast Go.Proofs.YtcgaakbehgpmmaaW.PrintMore
set_option linter.unusedVariables false
set_option linter.unusedSimpArgs false
theorem little_loop (n L : Nat) (hL : L ≤ 8) (d : Nat) : ∀ (k : Nat) (xs : List Int) (i : Nat), xs.length = L → i + d = L → d < k → octet_Little.l0 k (n : Int) xs (L : Int) (i : Int) = some (xs.take i ++ digs d (n / 256 ^ i)) := by
  induction d with
  | zero =>
    intro k xs i hx hi hk
    obtain ⟨k, rfl⟩ : ∃ m, k = m + 1 := ⟨k - 1, by omega⟩
    simp only [octet_Little.l0]
    rw [if_neg (by omega)]
    simp [digs, List.take_of_length_le (by omega : xs.length ≤ i)]
  | succ d ih =>
    intro k xs i hx hi hk
    obtain ⟨k, rfl⟩ : ∃ m, k = m + 1 := ⟨k - 1, by omega⟩
    simp only [octet_Little.l0]
    have e1 : wrap64 (8 * (i : Int)) = ((8 * i : Nat) : Int) := by rw [wrap64_id (by omega) (by omega)]; simp
    have e2 : wrap64 ((i : Int) + 1) = ((i + 1 : Nat) : Int) := wrap64_succ (by omega)
    rw [if_pos (by omega), e1, if_pos (by omega), if_pos (by omega), if_pos (by omega), e2, ih k _ (i + 1) (by simpa using hx) (by omega) (by omega)]
    rw [show ((i : Int)).toNat = i from by simp, take_set_succ _ _ _ (by omega), shr_byte n i (by omega)]
    simp [digs, List.append_assoc, Nat.pow_succ, Nat.div_div_eq_div_mul]
/-- The width that counts. -/
def wid (w : Int) : Nat := (mn (mx w 0) 8).toNat
theorem wid_le (w : Int) : wid w ≤ 8 := by unfold wid mn mx; split <;> split <;> omega
theorem little_tells (n : Nat) (w : Int) (k : Nat) (hk : 10 ≤ k) : octet_Little.f k (n : Int) w = some (digs (wid w) n) := by
  have hw := wid_le w
  unfold octet_Little.f
  have h0 : 0 ≤ mn (mx w 0) 8 := by unfold mn mx; split <;> split <;> omega
  rw [if_pos h0, if_pos (by unfold wid at hw; omega)]
  simp only [Option.bind_some]
  have e := little_loop n (wid w) hw (wid w) k (List.replicate (wid w) 0) 0 (by simp) (by simp) (by omega)
  simpa [wid] using e
theorem rd_nat (xs : List Int) (i : Nat) : rd xs (i : Int) = xs.getD i 0 := by simp [rd]
theorem reverse_loop (d : Nat) : ∀ (k : Nat) (a m b : List Int), m.length = d → d < k → a.length + d + b.length < 1000000 →
    slices_Reverse_byte_byte.l0 k (a ++ m ++ b) (a.length : Int) ((a.length : Int) + d - 1) = some (a ++ m.reverse ++ b) := by
  induction d using Nat.strongRecOn with
  | _ d ih =>
    intro k a m b hm hk hb
    obtain ⟨k, rfl⟩ : ∃ j, k = j + 1 := ⟨k - 1, by omega⟩
    simp only [slices_Reverse_byte_byte.l0]
    by_cases h : d ≤ 1
    · rw [if_neg (by omega)]
      match m, hm with
      | [], _ => rfl
      | [x], _ => rfl
      | x :: y :: m, hm => simp at hm; omega
    · obtain ⟨x, m1, rfl⟩ : ∃ x m1, m = x :: m1 := by
        cases m with
        | nil => simp at hm; omega
        | cons x m1 => exact ⟨x, m1, rfl⟩
      obtain ⟨m2, y, rfl⟩ : ∃ m2 y, m1 = m2 ++ [y] := by
        have : m1 ≠ [] := by intro e; subst e; simp at hm; omega
        exact ⟨m1.dropLast, m1.getLast this, (List.dropLast_concat_getLast this).symm⟩
      have hl : m2.length + 2 = d := by simp at hm; omega
      have hlen : (a ++ (x :: (m2 ++ [y])) ++ b).length = a.length + d + b.length := by simp; omega
      have ej : ((a.length : Int) + d - 1) = ((a.length + (m2.length + 1) : Nat) : Int) := by omega
      rw [ej]
      rw [if_pos (by omega), if_pos (by omega), if_pos (by omega), if_pos (by omega), if_pos (by omega)]
      rw [rd_nat, rd_nat]
      have r1 : (a ++ (x :: (m2 ++ [y])) ++ b).getD (a.length + (m2.length + 1)) 0 = y := by
        simp [List.getD_eq_getElem?_getD, List.append_assoc]
      have r2 : (a ++ (x :: (m2 ++ [y])) ++ b).getD a.length 0 = x := by
        simp [List.getD_eq_getElem?_getD, List.append_assoc]
      rw [r1, r2]
      have s1 : ((a ++ (x :: (m2 ++ [y])) ++ b).set ((a.length : Int)).toNat y).set (((a.length + (m2.length + 1) : Nat) : Int)).toNat x = (a ++ [y]) ++ m2 ++ (x :: b) := by
        rw [Int.toNat_natCast, Int.toNat_natCast]
        simp [List.append_assoc, List.set_append, Nat.add_sub_cancel_left]
      rw [s1]
      have e1 : wrap64 ((a.length : Int) + 1) = ((a ++ [y]).length : Int) := by rw [wrap64_id (by omega) (by omega)]; simp
      have e2 : wrap64 (((a.length + (m2.length + 1) : Nat) : Int) - 1) = ((a ++ [y]).length : Int) + (m2.length : Nat) - 1 := by
        rw [wrap64_id (by omega) (by omega)]; simp; omega
      rw [e1, e2, ih m2.length (by omega) k (a ++ [y]) m2 (x :: b) rfl (by omega) (by simp; omega)]
      simp [List.append_assoc]
theorem reverse_tells (xs : List Int) (k : Nat) (hk : xs.length < k) (hl : xs.length < 1000000) : slices_Reverse_byte_byte.f k xs = some xs.reverse := by
  unfold slices_Reverse_byte_byte.f
  have := reverse_loop xs.length k [] xs [] rfl hk (by simpa using hl)
  rw [wrap64_id (by omega) (by omega)]
  simpa using this
theorem great_tells (n : Nat) (w : Int) (k : Nat) (hk : 10 ≤ k) : octet_Great.f k (n : Int) w = some (digs (wid w) n).reverse := by
  have hw := wid_le w
  unfold octet_Great.f
  rw [little_tells n w k hk]
  simp only [Option.bind_some]
  rw [reverse_tells _ k (by rw [digs_length]; omega) (by rw [digs_length]; omega)]
  rfl
theorem awake_ok (k : Nat) (hk : 10 ≤ k) : mastheadlaw01_awake.f k = some true := by
  unfold mastheadlaw01_awake.f
  have h1 := little_tells 258 3 k hk
  have h2 := great_tells 258 3 k hk
  have e : (258 : Int) = ((258 : Nat) : Int) := rfl
  rw [e, h1, h2]
  decide +kernel
theorem bt_bounds (s : ByteArray) (i : Int) : 0 ≤ bt s i ∧ bt s i < 256 := by
  unfold bt
  split
  · rename_i h
    have := (s[i.toNat]'h).toNat_lt
    omega
  · omega
/-- Is it a digit's sign, and which digit is it? -/
def isD (c : Int) : Bool := decide (48 ≤ c ∧ c ≤ 57) || decide (97 ≤ c ∧ c ≤ 102)
def dv (c : Int) : Int := if c ≤ 57 then c - 48 else c - 87
theorem digit_tells (c : Int) (hc : 0 ≤ c ∧ c < 256) (k : Nat) (hk : 1 ≤ k) : octet_digit.f k c = some (if isD c then dv c else 0, isD c) := by
  obtain ⟨k, rfl⟩ : ∃ m, k = m + 1 := ⟨k - 1, by omega⟩
  unfold octet_digit.f
  simp only [octet_digit.j0, decide_eq_true_eq]
  by_cases h1 : 48 ≤ c ∧ c ≤ 57
  · have : isD c = true := by simp [isD, h1]
    rw [if_pos (by omega), if_pos (by omega), this]
    simp only [if_true, dv]
    rw [if_pos (by omega), Int.emod_eq_of_lt (by omega) (by omega)]
  · by_cases h2 : 97 ≤ c ∧ c ≤ 102
    · have : isD c = true := by simp [isD, h2]
      rw [if_pos (by omega), if_neg (by omega), if_pos (by omega), if_pos (by omega), this]
      simp only [if_true, dv]
      rw [if_neg (by omega)]
      congr 2
      omega
    · have : isD c = false := by simp only [isD, Bool.or_eq_false_iff, decide_eq_false_iff_not]; exact ⟨h1, h2⟩
      rw [this]
      by_cases h3 : 48 ≤ c
      · rw [if_pos (by omega), if_neg (by omega)]
        by_cases h4 : 97 ≤ c
        · rw [if_pos (by omega), if_neg (by omega)]; rfl
        · rw [if_neg (by omega)]; rfl
      · rw [if_neg (by omega)]
        simp only [Bool.false_eq_true, if_false]
        rw [if_neg (by omega)]
theorem dv_bounds {c : Int} (h : isD c = true) : 0 ≤ dv c ∧ dv c < 16 := by
  simp only [isD, Bool.or_eq_true, decide_eq_true_eq] at h
  unfold dv
  split <;> omega
theorem sign_all : ∀ n : Fin 16, mastheadref01_Sign.f (n.val : Int) = some (if n.val < 10 then (n.val : Int) + 48 else (n.val : Int) + 87) := by decide +kernel
theorem sign_tells {c : Int} (h : isD c = true) : mastheadref01_Sign.f (dv c) = some c := by
  have hb := dv_bounds h
  have := sign_all ⟨(dv c).toNat, by omega⟩
  simp only [Int.toNat_of_nonneg hb.1] at this
  rw [this]
  simp only [isD, Bool.or_eq_true, decide_eq_true_eq] at h
  congr 1
  unfold dv at *
  split at hb <;> split <;> split <;> omega
/-- Are these bytes the digits of the text? -/
def Of (s : ByteArray) (xs : List Int) : Prop := ∀ j : Nat, j < xs.length → isD (bt s (2 * j : Nat)) = true ∧ isD (bt s (2 * j + 1 : Nat)) = true ∧ xs.getD j 0 = dv (bt s (2 * j : Nat)) * 16 + dv (bt s (2 * j + 1 : Nat))
/-- A sign from here on is no digit's. -/
def Bad (s : ByteArray) (i : Nat) : Prop := ∃ j : Nat, i ≤ j ∧ j < s.size ∧ isD (bt s j) = false
theorem unhex_loop (s : ByteArray) (L : Nat) (hs : s.size = 2 * L) (hL : L ≤ 1000) (d : Nat) : ∀ (k i : Nat) (xs : List Int), xs.length = L → i + d = L → d + 2 < k →
    (∀ j : Nat, j < i → isD (bt s (2 * j : Nat)) = true ∧ isD (bt s (2 * j + 1 : Nat)) = true ∧ xs.getD j 0 = dv (bt s (2 * j : Nat)) * 16 + dv (bt s (2 * j + 1 : Nat))) →
    (∃ r, octet_Unhex.l0 k s xs (L : Int) (i : Int) = some (r, 0) ∧ r.length = L ∧ Of s r) ∨ (octet_Unhex.l0 k s xs (L : Int) (i : Int) = some ([], 3) ∧ Bad s 0) := by
  induction d with
  | zero =>
    intro k i xs hx hi hk hp
    obtain ⟨k, rfl⟩ : ∃ m, k = m + 1 := ⟨k - 1, by omega⟩
    left
    refine ⟨xs, ?_, hx, fun j hj => hp j (by omega)⟩
    simp only [octet_Unhex.l0]
    rw [if_neg (by omega)]
  | succ d ih =>
    intro k i xs hx hi hk hp
    obtain ⟨k, rfl⟩ : ∃ m, k = m + 1 := ⟨k - 1, by omega⟩
    simp only [octet_Unhex.l0]
    have e1 : wrap64 (2 * (i : Int)) = ((2 * i : Nat) : Int) := by rw [wrap64_id (by omega) (by omega)]; simp
    have e2 : wrap64 (((2 * i : Nat) : Int) + 1) = ((2 * i + 1 : Nat) : Int) := wrap64_succ (by omega)
    rw [if_pos (by omega), e1, e2, if_pos (by omega), if_pos (by omega), digit_tells _ (bt_bounds _ _) k (by omega), digit_tells _ (bt_bounds _ _) k (by omega)]
    simp only [Option.bind_some]
    rw [if_pos (by omega), if_pos (by omega)]
    by_cases h1 : isD (bt s ((2 * i : Nat) : Int)) = true
    · by_cases h2 : isD (bt s ((2 * i + 1 : Nat) : Int)) = true
      · rw [if_pos h1, if_pos h2, if_pos h1, if_pos h2, if_pos (by omega), if_pos (by omega), wrap64_succ (by omega)]
        have b1 := dv_bounds h1
        have b2 := dv_bounds h2
        have eo : Go.bits .or .u8 ((dv (bt s ((2 * i : Nat) : Int)) * 16) % 256) (dv (bt s ((2 * i + 1 : Nat) : Int))) = dv (bt s ((2 * i : Nat) : Int)) * 16 + dv (bt s ((2 * i + 1 : Nat) : Int)) := by
          rw [Int.emod_eq_of_lt (by omega) (by omega)]
          exact bits_join .u8 8 (by decide) wraps_u8 4 _ _ (by omega) (by omega) (by omega) b2.1 (by omega) (by omega)
        rw [eo]
        refine ih k (i + 1) _ (by simpa using hx) (by omega) (by omega) ?_
        intro j hj
        by_cases e : j = i
        · subst e
          refine ⟨h1, h2, ?_⟩
          simp [List.getD_eq_getElem?_getD, List.getElem?_set, hx, (by omega : j < L)]
        · obtain ⟨p1, p2, p3⟩ := hp j (by omega)
          refine ⟨p1, p2, ?_⟩
          rw [← p3, List.getD_eq_getElem?_getD, List.getD_eq_getElem?_getD, Int.toNat_natCast, List.getElem?_set_ne (by omega)]
      · right
        rw [if_pos h1, if_neg h2]
        exact ⟨rfl, 2 * i + 1, by omega, by omega, by simpa using h2⟩
    · right
      rw [if_neg h1]
      exact ⟨rfl, 2 * i, by omega, by omega, by simpa using h1⟩
theorem data_bt (s : ByteArray) (i : Nat) (h : i < s.size) : UInt8.ofNat (bt s (i : Int)).toNat = s.data.toList[i]'(by simpa using h) := by
  unfold bt
  rw [dif_pos (by simpa using h)]
  simp
  rfl
theorem hex_loop (s : ByteArray) (r : List Int) (hs : s.size = 2 * r.length) (hL : r.length ≤ 1000) (ho : Of s r) (d : Nat) : ∀ (k i : Nat) (t : ByteArray), i + d = r.length → d < k →
    t.data.toList = s.data.toList.take (2 * i) → ∃ q, mastheadref01_Hex.l0 k r t (i : Int) = some q ∧ q.data.toList = s.data.toList := by
  induction d with
  | zero =>
    intro k i t hi hk ht
    obtain ⟨k, rfl⟩ : ∃ m, k = m + 1 := ⟨k - 1, by omega⟩
    refine ⟨t, ?_, ?_⟩
    · simp only [mastheadref01_Hex.l0]
      rw [if_neg (by omega)]
    · rw [ht, List.take_of_length_le]
      have : s.data.toList.length = s.size := data_length s
      omega
  | succ d ih =>
    intro k i t hi hk ht
    obtain ⟨k, rfl⟩ : ∃ m, k = m + 1 := ⟨k - 1, by omega⟩
    have hil : i < r.length := by omega
    obtain ⟨h1, h2, h3⟩ := ho i hil
    have b1 := dv_bounds h1
    have b2 := dv_bounds h2
    have hsl : s.data.toList.length = s.size := data_length s
    simp only [mastheadref01_Hex.l0]
    rw [if_pos (by omega), if_pos (by omega), rd_nat, h3, wrap64_id (n := dv _ * 16 + dv _) (by omega) (by omega)]
    rw [Int.tdiv_eq_ediv_of_nonneg (by omega), Int.tmod_eq_emod_of_nonneg (by omega)]
    rw [show (dv (bt s ((2 * i : Nat) : Int)) * 16 + dv (bt s ((2 * i + 1 : Nat) : Int))) / 16 = dv (bt s ((2 * i : Nat) : Int)) from by omega]
    rw [show (dv (bt s ((2 * i : Nat) : Int)) * 16 + dv (bt s ((2 * i + 1 : Nat) : Int))) % 16 = dv (bt s ((2 * i + 1 : Nat) : Int)) from by omega]
    rw [wrap64_id (by omega) (by omega), sign_tells h1, sign_tells h2]
    simp only [Option.bind_some]
    have htl : t.data.toList.length = t.size := data_length t
    have htl2 : t.data.toList.length = 2 * i := by rw [ht, List.length_take]; omega
    rw [if_pos (by rw [strOfNums_size]; simp; omega), wrap64_succ (by omega)]
    refine ih k (i + 1) _ (by omega) (by omega) ?_
    have ea : (t ++ strOfNums [bt s ((2 * i : Nat) : Int), bt s ((2 * i + 1 : Nat) : Int)]).data.toList = t.data.toList ++ (strOfNums [bt s ((2 * i : Nat) : Int), bt s ((2 * i + 1 : Nat) : Int)]).data.toList := by
      simp [ByteArray.data_append]
    rw [ea, strOfNums_data, ht]
    rw [show 2 * (i + 1) = 2 * i + 1 + 1 from by omega, List.take_succ_eq_append_getElem (by omega), List.take_succ_eq_append_getElem (by omega)]
    simp only [List.map_cons, List.map_nil, List.append_assoc]
    rw [data_bt s (2 * i) (by omega), data_bt s (2 * i + 1) (by omega)]
    rfl
theorem law_loop (s : ByteArray) (hs : s.size ≤ 200) (d : Nat) : ∀ (k i : Nat) (b : Bool), i + d = s.size → d + 12 < k → (b = false ∨ Bad s i) →
    mastheadlaw01_OctetReads.l0 k s [] 3 b (i : Int) = some true := by
  induction d with
  | zero =>
    intro k i b hi hk hb
    obtain ⟨k, rfl⟩ : ∃ m, k = m + 1 := ⟨k - 1, by omega⟩
    simp only [mastheadlaw01_OctetReads.l0]
    obtain rfl : b = false := by
      rcases hb with h | ⟨j, h1, h2, _⟩
      · exact h
      · omega
    rw [if_neg (by omega), awake_ok k (by omega)]
    simp
  | succ d ih =>
    intro k i b hi hk hb
    obtain ⟨k, rfl⟩ : ∃ m, k = m + 1 := ⟨k - 1, by omega⟩
    simp only [mastheadlaw01_OctetReads.l0]
    rw [if_pos (by omega), wrap64_succ (by omega)]
    have next : ∀ b', (b' = (b && isD (bt s (i : Int)))) → mastheadlaw01_OctetReads.l0 k s [] 3 b' ((i + 1 : Nat) : Int) = some true := by
      rintro b' rfl
      refine ih k (i + 1) _ (by omega) (by omega) ?_
      rcases hb with h | ⟨j, h1, h2, h3⟩
      · left; simp [h]
      · by_cases e : j = i
        · subst e; left; simp [h3]
        · right; exact ⟨j, by omega, h2, h3⟩
    by_cases hbt : b = true
    · subst hbt
      simp only [Bool.true_and] at next
      rw [if_pos (by trivial), if_pos (by omega)]
      generalize bt s (i : Int) = c at *
      by_cases c1 : c ≥ 48
      · rw [if_pos c1]
        by_cases c2 : c ≤ 57
        · rw [if_pos c2]; exact next _ (by simp [isD]; omega)
        · rw [if_neg c2]
          by_cases c3 : c ≥ 97
          · rw [if_pos c3]; refine next _ ?_
            by_cases c4 : c ≤ 102 <;> simp [isD, c4] <;> omega
          · rw [if_neg c3]; refine next _ ?_
            simp [isD]; omega
      · rw [if_neg c1]
        rw [if_neg (by omega)]; refine next _ ?_
        simp [isD]; omega
    · rw [if_neg hbt]
      exact next _ (by simp [hbt])
theorem OctetReads : mastheadlaw01_OctetReads.Pure := by
  intro s hs
  refine ⟨400, ?_⟩
  unfold mastheadlaw01_OctetReads.f
  rw [awake_ok 400 (by omega)]
  simp only [Option.bind_some]
  by_cases h : (s.size : Int) > 200
  · rw [if_pos h]
  · rw [if_neg h]
    unfold octet_Unhex.f
    by_cases h2 : (s.size : Int) % 2 = 0
    · have e : wrap64 ((s.size : Int) / 2) = ((s.size / 2 : Nat) : Int) := by rw [wrap64_id (by omega) (by omega)]; simp
      rw [if_pos h2, e, if_pos (by omega), if_pos (by omega)]
      simp only [Option.bind_some, Int.toNat_natCast]
      rw [show ((List.replicate (s.size / 2) (0 : Int)).length : Int) = ((s.size / 2 : Nat) : Int) from by simp]
      rcases unhex_loop s (s.size / 2) (by omega) (by omega) (s.size / 2) 400 0 (List.replicate (s.size / 2) 0) (by simp) (by omega) (by omega) (by intro j hj; omega) with ⟨r, hr, hl, ho⟩ | ⟨hr, hb⟩
      · rw [show ((0 : Nat) : Int) = 0 from rfl] at hr
        rw [hr]
        simp only [Option.bind_some]
        rw [if_pos (by trivial)]
        obtain ⟨q, hq, hqd⟩ := hex_loop s r (by omega) (by omega) ho r.length 400 0 ⟨#[]⟩ (by omega) (by omega) (by simp)
        unfold mastheadref01_Hex.f
        rw [show ((0 : Nat) : Int) = 0 from rfl] at hq
        rw [hq]
        simp only [Option.bind_some]
        have : q = s := by
          cases q; cases s
          simp only [ByteArray.mk.injEq]
          exact Array.toList_inj.1 hqd
        rw [if_pos (by rw [this])]
      · rw [show ((0 : Nat) : Int) = 0 from rfl] at hr
        rw [hr]
        simp only [Option.bind_some]
        rw [if_neg (by decide)]
        exact law_loop s (by omega) s.size 400 0 _ (by omega) (by omega) (.inr hb)
    · rw [if_neg h2]
      simp only [Option.bind_some]
      rw [if_neg (by decide)]
      exact law_loop s (by omega) s.size 400 0 _ (by omega) (by omega) (.inl (by simpa using h2))
end Go.Proofs.Ytcgaakbehgpmmaa.Pure
