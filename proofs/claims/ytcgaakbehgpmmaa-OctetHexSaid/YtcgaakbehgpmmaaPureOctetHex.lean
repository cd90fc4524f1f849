/- Any bytes have their digits, from which they come back: for every list of bytes. -/
import Derived.Test.YtcgaakbehgpmmaaPlain
import Derived.Test.YtcgaakbehgpmmaaMOctetHexn3
namespace Go.Proofs.Ytcgaakbehgpmmaa.Pure
open Go.RowKit Go.Proofs.Ytcgaakbehgpmmaa.Plain Go.Proofs.Ytcgaakbehgpmmaa.POctetHex Go.Proofs.YtcgaakbehgpmmaaW.PrintWords Go.Proofs.YtcgaakbehgpmmaaW.PrintLast Go.Proofs.YtcgaakbehgpmmaaW.PrintMore
set_option linter.unusedVariables false
set_option linter.unusedSimpArgs false
theorem little_loop (n L : Nat) (hL : L ≤ 8) (d : Nat) : ∀ (k : Nat) (xs : List Int) (i : Nat), xs.length = L → i + d = L → d < k → octet_Little.l0 k (n : Int) xs (L : Int) (i : Int) = some (xs.take i ++ digs d (n / 256 ^ i)) := by
  induction d with
  | zero =>
    intro k xs i hx hi hk
    obtain ⟨k, rfl⟩ : ∃ m, k = m + 1 := ⟨k - 1, by omega⟩
    simp only [octet_Little.l0]
    rw [if_neg (by omega)]
    simp [digs, List.take_of_length_le (by omega : xs.length ≤ i)]
  | succ d ih =>
    intro k xs i hx hi hk
    obtain ⟨k, rfl⟩ : ∃ m, k = m + 1 := ⟨k - 1, by omega⟩
    simp only [octet_Little.l0]
    have e1 : wrap64 (8 * (i : Int)) = ((8 * i : Nat) : Int) := by rw [wrap64_id (by omega) (by omega)]; simp
    have e2 : wrap64 ((i : Int) + 1) = ((i + 1 : Nat) : Int) := wrap64_succ (by omega)
    rw [if_pos (by omega), e1, if_pos (by omega), if_pos (by omega), if_pos (by omega), e2, ih k _ (i + 1) (by simpa using hx) (by omega) (by omega)]
    rw [show ((i : Int)).toNat = i from by simp, take_set_succ _ _ _ (by omega), shr_byte n i (by omega)]
    simp [digs, List.append_assoc, Nat.pow_succ, Nat.div_div_eq_div_mul]
/-- The width that counts. -/
def wid (w : Int) : Nat := (mn (mx w 0) 8).toNat
theorem wid_le (w : Int) : wid w ≤ 8 := by unfold wid mn mx; split <;> split <;> omega
theorem little_tells (n : Nat) (w : Int) (k : Nat) (hk : 10 ≤ k) : octet_Little.f k (n : Int) w = some (digs (wid w) n) := by
  have hw := wid_le w
  unfold octet_Little.f
  have h0 : 0 ≤ mn (mx w 0) 8 := by unfold mn mx; split <;> split <;> omega
  rw [if_pos h0, if_pos (by unfold wid at hw; omega)]
  simp only [Option.bind_some]
  have e := little_loop n (wid w) hw (wid w) k (List.replicate (wid w) 0) 0 (by simp) (by simp) (by omega)
  simpa [wid] using e
theorem rd_nat (xs : List Int) (i : Nat) : rd xs (i : Int) = xs.getD i 0 := by simp [rd]
theorem reverse_loop (d : Nat) : ∀ (k : Nat) (a m b : List Int), m.length = d → d < k → a.length + d + b.length < 1000000 →
    slices_Reverse_byte_byte.l0 k (a ++ m ++ b) (a.length : Int) ((a.length : Int) + d - 1) = some (a ++ m.reverse ++ b) := by
  induction d using Nat.strongRecOn with
  | _ d ih =>
    intro k a m b hm hk hb
    obtain ⟨k, rfl⟩ : ∃ j, k = j + 1 := ⟨k - 1, by omega⟩
    simp only [slices_Reverse_byte_byte.l0]
    by_cases h : d ≤ 1
    · rw [if_neg (by omega)]
      match m, hm with
      | [], _ => rfl
      | [x], _ => rfl
      | x :: y :: m, hm => simp at hm; omega
    · obtain ⟨x, m1, rfl⟩ : ∃ x m1, m = x :: m1 := by
        cases m with
        | nil => simp at hm; omega
        | cons x m1 => exact ⟨x, m1, rfl⟩
      obtain ⟨m2, y, rfl⟩ : ∃ m2 y, m1 = m2 ++ [y] := by
        have : m1 ≠ [] := by intro e; subst e; simp at hm; omega
        exact ⟨m1.dropLast, m1.getLast this, (List.dropLast_concat_getLast this).symm⟩
      have hl : m2.length + 2 = d := by simp at hm; omega
      have hlen : (a ++ (x :: (m2 ++ [y])) ++ b).length = a.length + d + b.length := by simp; omega
      have ej : ((a.length : Int) + d - 1) = ((a.length + (m2.length + 1) : Nat) : Int) := by omega
      rw [ej]
      rw [if_pos (by omega), if_pos (by omega), if_pos (by omega), if_pos (by omega), if_pos (by omega)]
      rw [rd_nat, rd_nat]
      have r1 : (a ++ (x :: (m2 ++ [y])) ++ b).getD (a.length + (m2.length + 1)) 0 = y := by
        simp [List.getD_eq_getElem?_getD, List.append_assoc]
      have r2 : (a ++ (x :: (m2 ++ [y])) ++ b).getD a.length 0 = x := by
        simp [List.getD_eq_getElem?_getD, List.append_assoc]
      rw [r1, r2]
      have s1 : ((a ++ (x :: (m2 ++ [y])) ++ b).set ((a.length : Int)).toNat y).set (((a.length + (m2.length + 1) : Nat) : Int)).toNat x = (a ++ [y]) ++ m2 ++ (x :: b) := by
        rw [Int.toNat_natCast, Int.toNat_natCast]
        simp [List.append_assoc, List.set_append, Nat.add_sub_cancel_left]
      rw [s1]
      have e1 : wrap64 ((a.length : Int) + 1) = ((a ++ [y]).length : Int) := by rw [wrap64_id (by omega) (by omega)]; simp
      have e2 : wrap64 (((a.length + (m2.length + 1) : Nat) : Int) - 1) = ((a ++ [y]).length : Int) + (m2.length : Nat) - 1 := by
        rw [wrap64_id (by omega) (by omega)]; simp; omega
      rw [e1, e2, ih m2.length (by omega) k (a ++ [y]) m2 (x :: b) rfl (by omega) (by simp; omega)]
      simp [List.append_assoc]
theorem reverse_tells (xs : List Int) (k : Nat) (hk : xs.length < k) (hl : xs.length < 1000000) : slices_Reverse_byte_byte.f k xs = some xs.reverse := by
  unfold slices_Reverse_byte_byte.f
  have := reverse_loop xs.length k [] xs [] rfl hk (by simpa using hl)
  rw [wrap64_id (by omega) (by omega)]
  simpa using this
theorem great_tells (n : Nat) (w : Int) (k : Nat) (hk : 10 ≤ k) : octet_Great.f k (n : Int) w = some (digs (wid w) n).reverse := by
  have hw := wid_le w
  unfold octet_Great.f
  rw [little_tells n w k hk]
  simp only [Option.bind_some]
  rw [reverse_tells _ k (by rw [digs_length]; omega) (by rw [digs_length]; omega)]
  rfl
theorem awake_ok (k : Nat) (hk : 10 ≤ k) : mastheadlaw01_awake.f k = some true := by
  unfold mastheadlaw01_awake.f
  have h1 := little_tells 258 3 k hk
  have h2 := great_tells 258 3 k hk
  have e : (258 : Int) = ((258 : Nat) : Int) := rfl
  rw [e, h1, h2]
  decide +kernel
theorem bt_bounds (s : ByteArray) (i : Int) : 0 ≤ bt s i ∧ bt s i < 256 := by
  unfold bt
  split
  · rename_i h
    have := (s[i.toNat]'h).toNat_lt
    omega
  · omega
/-- Is it a digit's sign, and which digit is it? -/
def isD (c : Int) : Bool := decide (48 ≤ c ∧ c ≤ 57) || decide (97 ≤ c ∧ c ≤ 102)
def dv (c : Int) : Int := if c ≤ 57 then c - 48 else c - 87
theorem digit_tells (c : Int) (hc : 0 ≤ c ∧ c < 256) (k : Nat) (hk : 1 ≤ k) : octet_digit.f k c = some (if isD c then dv c else 0, isD c) := by
  obtain ⟨k, rfl⟩ : ∃ m, k = m + 1 := ⟨k - 1, by omega⟩
  unfold octet_digit.f
  simp only [octet_digit.j0, decide_eq_true_eq]
  by_cases h1 : 48 ≤ c ∧ c ≤ 57
  · have : isD c = true := by simp [isD, h1]
    rw [if_pos (by omega), if_pos (by omega), this]
    simp only [if_true, dv]
    rw [if_pos (by omega), Int.emod_eq_of_lt (by omega) (by omega)]
  · by_cases h2 : 97 ≤ c ∧ c ≤ 102
    · have : isD c = true := by simp [isD, h2]
      rw [if_pos (by omega), if_neg (by omega), if_pos (by omega), if_pos (by omega), this]
      simp only [if_true, dv]
      rw [if_neg (by omega)]
      congr 2
      omega
    · have : isD c = false := by simp only [isD, Bool.or_eq_false_iff, decide_eq_false_iff_not]; exact ⟨h1, h2⟩
      rw [this]
      by_cases h3 : 48 ≤ c
      · rw [if_pos (by omega), if_neg (by omega)]
        by_cases h4 : 97 ≤ c
        · rw [if_pos (by omega), if_neg (by omega)]; rfl
        · rw [if_neg (by omega)]; rfl
      · rw [if_neg (by omega)]
        simp only [Bool.false_eq_true, if_false]
        rw [if_neg (by omega)]
theorem dv_bounds {c : Int} (h : isD c = true) : 0 ≤ dv c ∧ dv c < 16 := by
  simp only [isD, Bool.or_eq_true, decide_eq_true_eq] at h
  unfold dv
  split <;> omega
theorem sign_all : ∀ n : Fin 16, mastheadref01_Sign.f (n.val : Int) = some (if n.val < 10 then (n.val : Int) + 48 else (n.val : Int) + 87) := by decide +kernel
theorem sign_tells {c : Int} (h : isD c = true) : mastheadref01_Sign.f (dv c) = some c := by
  have hb := dv_bounds h
  have := sign_all ⟨(dv c).toNat, by omega⟩
  simp only [Int.toNat_of_nonneg hb.1] at this
  rw [this]
  simp only [isD, Bool.or_eq_true, decide_eq_true_eq] at h
  congr 1
  unfold dv at *
  split at hb <;> split <;> split <;> omega
/-- A digit's sign. -/
def sg (n : Int) : Int := if n < 10 then n + 48 else n + 87
def hexl : List Int → List Int
  | [] => []
  | x :: l => sg (x / 16) :: sg (x % 16) :: hexl l
theorem hexl_append : ∀ a b, hexl (a ++ b) = hexl a ++ hexl b
  | [], b => rfl
  | x :: a, b => by simp [hexl, hexl_append a b]
theorem hexl_length : ∀ l, (hexl l).length = 2 * l.length
  | [] => rfl
  | x :: l => by simp [hexl, hexl_length l]; omega
theorem sg_tells {n : Int} (h0 : 0 ≤ n) (h1 : n < 16) : isD (sg n) = true ∧ dv (sg n) = n ∧ 0 ≤ sg n ∧ sg n < 256 := by
  unfold sg
  split
  · refine ⟨by simp [isD]; omega, by unfold dv; rw [if_pos (by omega)]; omega, by omega, by omega⟩
  · refine ⟨by simp [isD]; omega, by unfold dv; rw [if_neg (by omega)]; omega, by omega, by omega⟩
theorem hexl_get : ∀ (l : List Int) (i : Nat) (h : i < l.length), (hexl l).getD (2 * i) 0 = sg (l[i] / 16) ∧ (hexl l).getD (2 * i + 1) 0 = sg (l[i] % 16)
  | x :: l, 0, h => ⟨rfl, rfl⟩
  | x :: l, i + 1, h => by
    have := hexl_get l i (by simpa using h)
    rw [show 2 * (i + 1) = 2 * i + 1 + 1 from by omega]
    simpa [hexl] using this
theorem sign_bt : ∀ n : Fin 16, bt (⟨#[48, 49, 50, 51, 52, 53, 54, 55, 56, 57, 97, 98, 99, 100, 101, 102]⟩ : ByteArray) (n.val : Int) = sg (n.val : Int) := by decide +kernel
theorem sign_bt' {n : Int} (h0 : 0 ≤ n) (h1 : n < 16) : bt (⟨#[48, 49, 50, 51, 52, 53, 54, 55, 56, 57, 97, 98, 99, 100, 101, 102]⟩ : ByteArray) n = sg n := by
  have := sign_bt ⟨n.toNat, by omega⟩
  simpa only [Int.toNat_of_nonneg h0] using this
theorem sign_f {n : Int} (h0 : 0 ≤ n) (h1 : n < 16) : mastheadref01_Sign.f n = some (sg n) := by
  unfold mastheadref01_Sign.f
  rw [if_pos h0, if_pos h1, sign_bt' h0 h1]
theorem bt_str (xs : List Int) (i : Nat) (h : i < xs.length) (hb : 0 ≤ xs[i] ∧ xs[i] < 256) : bt (strOfNums xs) (i : Int) = xs[i] := by
  have hs := strOfNums_size xs
  unfold bt
  rw [dif_pos (by rw [hs]; simpa using h)]
  have e : (strOfNums xs)[i]'(by rw [hs]; exact h) = UInt8.ofNat xs[i].toNat := by
    simp [strOfNums, ByteArray.getElem_eq_getElem_data]
  simp only [Int.toNat_natCast]
  rw [e]
  simp
  omega
theorem hexl_bytes {l : List Int} (hb : ∀ x ∈ l, 0 ≤ x ∧ x < 256) : ∀ x ∈ hexl l, 0 ≤ x ∧ x < 256 := by
  induction l with
  | nil => simp [hexl]
  | cons y l ih =>
    intro x hx
    have h1 := hb y (by simp)
    simp only [hexl, List.mem_cons] at hx
    rcases hx with rfl | rfl | hx
    · exact (sg_tells (by omega) (by omega)).2.2
    · exact (sg_tells (by omega) (by omega)).2.2
    · exact ih (fun z hz => hb z (by simp [hz])) x hx
theorem hex_loop (l : List Int) (hb : ∀ x ∈ l, 0 ≤ x ∧ x < 256) (hl : l.length ≤ 200) (d : Nat) : ∀ (k i : Nat) (out : List Int), i + d = l.length → d < k → out = hexl (l.take i) →
    octet_Hex.l0 k out l (l.length : Int) (i : Int) = some (strOfNums (hexl l)) := by
  induction d with
  | zero =>
    intro k i out hi hk ho
    obtain ⟨k, rfl⟩ : ∃ m, k = m + 1 := ⟨k - 1, by omega⟩
    simp only [octet_Hex.l0]
    rw [if_neg (by omega), ho, List.take_of_length_le (by omega)]
  | succ d ih =>
    intro k i out hi hk ho
    obtain ⟨k, rfl⟩ : ∃ m, k = m + 1 := ⟨k - 1, by omega⟩
    have hil : i < l.length := by omega
    simp only [octet_Hex.l0]
    have x1 : rd l (i : Int) = l[i] := by simp [rd, hil]
    have hx := hb l[i] (List.getElem_mem hil)
    have ea : Go.bits .and .u8 (l[i]) 15 = l[i] % 16 := u8_and15 _ hx.1 hx.2
    rw [x1, ea, sign_bt' (by omega) (by omega), sign_bt' (by omega) (by omega)]
    have hlen : out.length = 2 * i := by rw [ho, hexl_length, List.length_take]; omega
    rw [if_pos (by omega), if_pos (by omega), if_pos (by omega), if_pos (by omega), if_pos (by omega), if_pos (by omega), if_pos (by omega)]
    simp only [Option.bind_some]
    rw [if_pos (by simp; omega), wrap64_succ (by omega)]
    refine ih k (i + 1) _ (by omega) (by omega) ?_
    rw [List.take_succ_eq_append_getElem hil, hexl_append, ho]
    rfl
theorem ref_loop (l : List Int) (hb : ∀ x ∈ l, 0 ≤ x ∧ x < 256) (hl : l.length ≤ 200) (d : Nat) : ∀ (k i : Nat) (out : ByteArray), i + d = l.length → d < k → out = strOfNums (hexl (l.take i)) →
    mastheadref01_Hex.l0 k l out (i : Int) = some (strOfNums (hexl l)) := by
  induction d with
  | zero =>
    intro k i out hi hk ho
    obtain ⟨k, rfl⟩ : ∃ m, k = m + 1 := ⟨k - 1, by omega⟩
    simp only [mastheadref01_Hex.l0]
    rw [if_neg (by omega), ho, List.take_of_length_le (by omega)]
  | succ d ih =>
    intro k i out hi hk ho
    obtain ⟨k, rfl⟩ : ∃ m, k = m + 1 := ⟨k - 1, by omega⟩
    have hil : i < l.length := by omega
    simp only [mastheadref01_Hex.l0]
    have x1 : rd l (i : Int) = l[i] := by simp [rd, hil]
    have hx := hb l[i] (List.getElem_mem hil)
    rw [x1, wrap64_id (n := l[i]) (by omega) (by omega), Int.tdiv_eq_ediv_of_nonneg hx.1, Int.tmod_eq_emod_of_nonneg hx.1, wrap64_id (by omega) (by omega)]
    rw [if_pos (by omega), if_pos (by omega), sign_f (by omega) (by omega), sign_f (by omega) (by omega)]
    simp only [Option.bind_some]
    have hlen : out.size = 2 * i := by rw [ho, strOfNums_size, hexl_length, List.length_take]; omega
    rw [if_pos (by rw [strOfNums_size]; simp; omega), wrap64_succ (by omega)]
    refine ih k (i + 1) _ (by omega) (by omega) ?_
    rw [List.take_succ_eq_append_getElem hil, hexl_append, ho]
    apply ByteArray.ext
    simp [strOfNums, hexl, ByteArray.data_append]
theorem back_loop (l : List Int) (hb : ∀ x ∈ l, 0 ≤ x ∧ x < 256) (hl : l.length ≤ 200) (d : Nat) : ∀ (k i : Nat) (xs : List Int), i + d = l.length → d + 1 < k → xs.length = l.length → xs.take i = l.take i →
    octet_Unhex.l0 k (strOfNums (hexl l)) xs (l.length : Int) (i : Int) = some (l, 0) := by
  induction d with
  | zero =>
    intro k i xs hi hk hx ht
    obtain ⟨k, rfl⟩ : ∃ m, k = m + 1 := ⟨k - 1, by omega⟩
    simp only [octet_Unhex.l0]
    rw [if_neg (by omega)]
    rw [List.take_of_length_le (by omega), List.take_of_length_le (by omega)] at ht
    rw [ht]
  | succ d ih =>
    intro k i xs hi hk hxl ht
    obtain ⟨k, rfl⟩ : ∃ m, k = m + 1 := ⟨k - 1, by omega⟩
    have hil : i < l.length := by omega
    have hx := hb l[i] (List.getElem_mem hil)
    have hsz : (strOfNums (hexl l)).size = 2 * l.length := by rw [strOfNums_size, hexl_length]
    have hhl := hexl_length l
    have hhb := hexl_bytes hb
    obtain ⟨g1, g2⟩ := hexl_get l i hil
    have s1 := sg_tells (n := l[i] / 16) (by omega) (by omega)
    have s2 := sg_tells (n := l[i] % 16) (by omega) (by omega)
    have b1 : bt (strOfNums (hexl l)) ((2 * i : Nat) : Int) = sg (l[i] / 16) := by
      rw [bt_str (hexl l) (2 * i) (by omega) (hhb _ (List.getElem_mem _)), ← g1, List.getD_eq_getElem?_getD, List.getElem?_eq_getElem (by omega)]
      rfl
    have b2 : bt (strOfNums (hexl l)) ((2 * i + 1 : Nat) : Int) = sg (l[i] % 16) := by
      rw [bt_str (hexl l) (2 * i + 1) (by omega) (hhb _ (List.getElem_mem _)), ← g2, List.getD_eq_getElem?_getD, List.getElem?_eq_getElem (by omega)]
      rfl
    simp only [octet_Unhex.l0]
    have e1 : wrap64 (2 * (i : Int)) = ((2 * i : Nat) : Int) := by rw [wrap64_id (by omega) (by omega)]; simp
    have e2 : wrap64 (((2 * i : Nat) : Int) + 1) = ((2 * i + 1 : Nat) : Int) := wrap64_succ (by omega)
    rw [if_pos (by omega), e1, e2, b1, b2, if_pos (by omega), if_pos (by omega), digit_tells _ s1.2.2 k (by omega), digit_tells _ s2.2.2 k (by omega)]
    simp only [Option.bind_some]
    rw [if_pos (by omega), if_pos (by omega), if_pos s1.1, if_pos s2.1, if_pos s1.1, if_pos s2.1, if_pos (by omega), if_pos (by omega), wrap64_succ (by omega), s1.2.1, s2.2.1]
    have eo : Go.bits .or .u8 (((l[i] / 16) * 16) % 256) (l[i] % 16) = l[i] := by
      rw [Int.emod_eq_of_lt (by omega) (by omega)]
      rw [bits_join .u8 8 (by decide) wraps_u8 4 (l[i] / 16 * 16) (l[i] % 16) (by omega) (by omega) (by omega) (by omega) (by omega) (by omega)]
      omega
    rw [eo]
    refine ih k (i + 1) _ (by omega) (by omega) (by simpa using hxl) ?_
    rw [Int.toNat_natCast, take_set_succ _ _ _ (by omega), ht, List.take_succ_eq_append_getElem hil]
theorem OctetHex : mastheadlaw01_OctetHex.Pure := by
  intro l hm hz hwf
  have hb := wf_u8s hwf
  refine ⟨400, ?_⟩
  unfold mastheadlaw01_OctetHex.f
  rw [awake_ok 400 (by omega)]
  simp only [Option.bind_some]
  by_cases h : (l.length : Int) > 200
  · rw [if_pos h]
  · rw [if_neg h]
    have h1 : octet_Hex.f 400 l = some (strOfNums (hexl l)) := by
      unfold octet_Hex.f
      rw [if_pos (by omega)]
      exact hex_loop l hb (by omega) l.length 400 0 [] (by omega) (by omega) rfl
    have h2 : mastheadref01_Hex.f 400 l = some (strOfNums (hexl l)) := ref_loop l hb (by omega) l.length 400 0 _ (by omega) (by omega) rfl
    have h3 : octet_Unhex.f 400 (strOfNums (hexl l)) = some (l, 0) := by
      unfold octet_Unhex.f
      have hsz : (strOfNums (hexl l)).size = 2 * l.length := by rw [strOfNums_size, hexl_length]
      have e : wrap64 (((strOfNums (hexl l)).size : Int) / 2) = (l.length : Int) := by rw [wrap64_id (by omega) (by omega)]; omega
      rw [if_pos (by omega), e, if_pos (by omega), if_pos (by omega)]
      simp only [Option.bind_some, Int.toNat_natCast]
      rw [List.length_replicate]
      exact back_loop l hb (by omega) l.length 400 0 _ (by omega) (by omega) (by simp) (by simp)
    rw [h1]
    simp only [Option.bind_some]
    rw [h3, h2]
    simp
end Go.Proofs.Ytcgaakbehgpmmaa.Pure
