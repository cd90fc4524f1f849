/- What the document's functions on texts of bits compute, over rows of bits. -/
import Derived.Test.YtakpohcobpbjkaaBitPlain
import Derived.Test.YtakpohcobpbjkaaMAlln3
namespace Go.Proofs.Ytakpohcobpbjkaa.Hand
open Go.RowKit Go.Proofs.Ytakpohcobpbjkaa.Plain Go.Proofs.Ytakpohcobpbjkaa.PAll Go.Proofs.YtakpohcobpbjkaaW.PrintWords Go.Proofs.YtakpohcobpbjkaaW.PrintLast Go.Proofs.YtakpohcobpbjkaaW.PrintMore
set_option linter.unusedVariables false
set_option linter.unusedSimpArgs false
theorem one_text (l : List Bool) : (⟨#[49]⟩ : ByteArray) ++ txt l = txt (true :: l) := txt_append [true] l
theorem nought_text (l : List Bool) : (⟨#[48]⟩ : ByteArray) ++ txt l = txt (false :: l) := txt_append [false] l
theorem tmod2 (n : Nat) : Int.tmod (n : Int) 2 = ((n % 2 : Nat) : Int) := by rw [Int.tmod_eq_emod_of_nonneg (by omega)]; simp
theorem tdiv2 (n : Nat) : Int.tdiv (n : Int) 2 = ((n / 2 : Nat) : Int) := by rw [Int.tdiv_eq_ediv_of_nonneg (by omega)]; simp
theorem bits_loop (n : Nat) (hn : n < 18446744073709551616) (w : Nat) (hw : w ≤ 64) (d : Nat) : ∀ (k i : Nat), i + d = w → d < k →
    mastheadref11_Bits.l0 k ((n / 2 ^ i : Nat) : Int) (w : Int) (txt (bitsOf n i)) (i : Int) = some (txt (bitsOf n w)) := by
  induction d with
  | zero =>
    intro k i hi hk
    obtain ⟨k, rfl⟩ : ∃ m, k = m + 1 := ⟨k - 1, by omega⟩
    simp only [mastheadref11_Bits.l0]
    rw [if_neg (by omega), show i = w from by omega]
  | succ d ih =>
    intro k i hi hk
    obtain ⟨k, rfl⟩ : ∃ m, k = m + 1 := ⟨k - 1, by omega⟩
    simp only [mastheadref11_Bits.l0]
    have hlt : n / 2 ^ i ≤ n := Nat.div_le_self _ _
    have e1 : IntKind.u64.wrap (Int.tdiv ((n / 2 ^ i : Nat) : Int) 2) = ((n / 2 ^ (i + 1) : Nat) : Int) := by
      rw [tdiv2, u64w_id (Int.natCast_nonneg _) (by omega), Nat.div_div_eq_div_mul, ← Nat.pow_succ]
    have hsz : (txt (bitsOf n i)).size = i := by rw [txt_size, bitsOf_length]
    rw [if_pos (by omega), e1, wrap64_succ (by omega), tmod2, one_text, nought_text]
    have hb := ih k (i + 1) (by omega) (by omega)
    by_cases h : n / 2 ^ i % 2 = 1
    · rw [if_pos (by omega), if_pos (by omega)]
      have : bitsOf n (i + 1) = true :: bitsOf n i := by simp [bitsOf, h]
      rw [this] at hb
      exact hb
    · rw [if_neg (by omega), if_pos (by omega)]
      have : bitsOf n (i + 1) = false :: bitsOf n i := by simp [bitsOf, h]
      rw [this] at hb
      exact hb
theorem bits_tells (n : Nat) (hn : n < 18446744073709551616) (w : Nat) (hw : w ≤ 64) (k : Nat) (hk : w < k) : mastheadref11_Bits.f k (n : Int) (w : Int) = some (txt (bitsOf n w)) := by
  have := bits_loop n hn w hw w k 0 (by omega) hk
  simpa [mastheadref11_Bits.f, bitsOf, txt] using this
theorem ones_loop (n : Nat) (hn : n ≤ 100000) (d : Nat) : ∀ (k i : Nat), i + d = n → d < k → mastheadref11_Ones.l0 k (n : Int) (List.replicate i 49) (i : Int) = some (txt (List.replicate n true)) := by
  induction d with
  | zero =>
    intro k i hi hk
    obtain ⟨k, rfl⟩ : ∃ m, k = m + 1 := ⟨k - 1, by omega⟩
    simp only [mastheadref11_Ones.l0]
    rw [if_neg (by omega), show i = n from by omega]
    congr 1
    apply ByteArray.ext
    simp [strOfNums, txt, sgn]
  | succ d ih =>
    intro k i hi hk
    obtain ⟨k, rfl⟩ : ∃ m, k = m + 1 := ⟨k - 1, by omega⟩
    simp only [mastheadref11_Ones.l0]
    rw [if_pos (by omega), if_pos (by simp; omega), wrap64_succ (by omega), ← List.replicate_succ']
    exact ih k (i + 1) (by omega) (by omega)
theorem ones_tells (n : Nat) (hn : n ≤ 100000) (k : Nat) (hk : n < k) : mastheadref11_Ones.f k (n : Int) = some (txt (List.replicate n true)) := ones_loop n hn n k 0 (by omega) hk
theorem bt_txt (l : List Bool) (i : Nat) (h : i < l.length) : bt (txt l) (i : Int) = if l[i] then 49 else 48 := by
  have hs := txt_size l
  unfold bt
  rw [dif_pos (by rw [hs]; simpa using h)]
  have e : (txt l)[i]'(by rw [hs]; exact h) = sgn l[i] := by simp [txt, ByteArray.getElem_eq_getElem_data]
  simp only [Int.toNat_natCast]
  rw [e]
  unfold sgn
  split <;> rfl
theorem nv_take_lt (l : List Bool) (i : Nat) (hl : l.length ≤ 64) : nv (l.take i) < 18446744073709551616 := by
  have h1 := nv_lt (l.take i)
  have h2 : (2 : Nat) ^ (l.take i).length ≤ 2 ^ 64 := Nat.pow_le_pow_right (by decide) (by simp; omega)
  omega
theorem number_loop (l : List Bool) (hl : l.length ≤ 64) (d : Nat) : ∀ (k i : Nat), i + d = l.length → d < k → mastheadref11_Number.l0 k (txt l) ((nv (l.take i) : Nat) : Int) (i : Int) = some ((nv l : Nat) : Int) := by
  induction d with
  | zero =>
    intro k i hi hk
    obtain ⟨k, rfl⟩ : ∃ m, k = m + 1 := ⟨k - 1, by omega⟩
    simp only [mastheadref11_Number.l0]
    rw [if_neg (by rw [txt_size]; omega), List.take_of_length_le (by omega)]
  | succ d ih =>
    intro k i hi hk
    obtain ⟨k, rfl⟩ : ∃ m, k = m + 1 := ⟨k - 1, by omega⟩
    have hil : i < l.length := by omega
    simp only [mastheadref11_Number.l0]
    have h1 := nv_take_lt l (i + 1) hl
    have e : nv (l.take (i + 1)) = 2 * nv (l.take i) + l[i].toNat := by rw [List.take_succ_eq_append_getElem hil, nv_snoc]
    have hb := ih k (i + 1) (by omega) (by omega)
    rw [if_pos (by rw [txt_size]; omega), if_pos (by omega), bt_txt l i hil, wrap64_succ (by omega)]
    rw [u64w_id (n := ((nv (l.take i) : Nat) : Int) * 2) (by omega) (by omega)]
    by_cases h : l[i] = true
    · rw [h] at e
      simp only [Bool.toNat_true] at e
      rw [if_pos (by simp [h]), u64w_id (by omega) (by omega)]
      rw [show ((nv (l.take i) : Nat) : Int) * 2 + 1 = ((nv (l.take (i + 1)) : Nat) : Int) from by omega]
      exact hb
    · simp only [Bool.not_eq_true] at h
      rw [h] at e
      simp only [Bool.toNat_false] at e
      rw [if_neg (by simp [h])]
      rw [show ((nv (l.take i) : Nat) : Int) * 2 = ((nv (l.take (i + 1)) : Nat) : Int) from by omega]
      exact hb
theorem number_tells (l : List Bool) (hl : l.length ≤ 64) (k : Nat) (hk : l.length < k) : mastheadref11_Number.f k (txt l) = some ((nv l : Nat) : Int) := by
  have := number_loop l hl l.length k 0 (by omega) hk
  simpa [mastheadref11_Number.f, nv] using this
theorem extract_txt (l : List Bool) (a b : Nat) : (txt l).extract a b = txt ((l.drop a).take (b - a)) := by
  apply ByteArray.ext
  apply Array.toList_inj.1
  simp [txt, ByteArray.data_extract, List.extract_eq_take_drop]
theorem chunk_pad (l : List Bool) (p j : Nat) (hp : (l.length + p) % 8 = 0) (hj : 8 * j < l.length) (h8 : p < 8) : ((l ++ List.replicate p false).drop (8 * j)).take 8 = chunk l j := by
  unfold chunk
  rw [List.drop_append_of_le_length (by omega), List.take_append]
  congr 1
  rw [List.take_replicate]
  congr 1
  simp
  omega
theorem bytes_loop (l : List Bool) (hl : l.length ≤ 100000) (p : Nat) (hp : (l.length + p) % 8 = 0) (h8 : p < 8) (d : Nat) : ∀ (k j : Nat), j + d = (l.length + 7) / 8 → d + 10 < k →
    mastheadref11_Bytes.l1 k (txt (l ++ List.replicate p false)) ((List.range j).map (byteAt l)) ((8 * j : Nat) : Int) = some (strOfNums (pk l)) := by
  have hsz : (txt (l ++ List.replicate p false)).size = l.length + p := by rw [txt_size]; simp
  induction d with
  | zero =>
    intro k j hj hk
    obtain ⟨k, rfl⟩ : ∃ m, k = m + 1 := ⟨k - 1, by omega⟩
    simp only [mastheadref11_Bytes.l1]
    rw [if_neg (by omega)]
    unfold pk
    rw [show j = (l.length + 7) / 8 from by omega]
  | succ d ih =>
    intro k j hj hk
    obtain ⟨k, rfl⟩ : ∃ m, k = m + 1 := ⟨k - 1, by omega⟩
    simp only [mastheadref11_Bytes.l1]
    have e1 : wrap64 (((8 * j : Nat) : Int) + 8) = ((8 * (j + 1) : Nat) : Int) := by rw [wrap64_id (by omega) (by omega)]; omega
    rw [if_pos (by omega), if_pos (by omega), e1, if_pos (by omega), if_pos (by omega), Int.toNat_natCast, Int.toNat_natCast, extract_txt]
    rw [show 8 * (j + 1) - 8 * j = 8 from by omega, chunk_pad l p j hp (by omega) h8, number_tells _ (by rw [chunk_length]; omega) k (by rw [chunk_length]; omega)]
    simp only [Option.bind_some]
    have hb := byteAt_bounds l j
    have hb2 : ((nv (chunk l j) : Nat) : Int) % 256 = byteAt l j := by
      show byteAt l j % 256 = byteAt l j
      omega
    rw [if_pos (by simp; omega), hb2]
    have := ih k (j + 1) (by omega) (by omega)
    rw [List.range_succ, List.map_append] at this
    exact this
theorem fill_loop (l : List Bool) (hl : l.length ≤ 100000) (p : Nat) (hp : (l.length + p) % 8 = 0) (h8 : p < 8) (d : Nat) : ∀ (k i : Nat), i + d = p → d + l.length + 20 < k →
    mastheadref11_Bytes.l0 k (txt (l ++ List.replicate i false)) = some (strOfNums (pk l)) := by
  induction d with
  | zero =>
    intro k i hi hk
    obtain ⟨k, rfl⟩ : ∃ m, k = m + 1 := ⟨k - 1, by omega⟩
    obtain rfl : i = p := by omega
    simp only [mastheadref11_Bytes.l0]
    rw [if_pos (by rw [txt_size]; simp; omega)]
    exact bytes_loop l hl i hp h8 ((l.length + 7) / 8) k 0 (by omega) (by omega)
  | succ d ih =>
    intro k i hi hk
    obtain ⟨k, rfl⟩ : ∃ m, k = m + 1 := ⟨k - 1, by omega⟩
    simp only [mastheadref11_Bytes.l0]
    have e : txt (l ++ List.replicate i false) ++ (⟨#[48]⟩ : ByteArray) = txt (l ++ List.replicate (i + 1) false) := by
      rw [show (⟨#[48]⟩ : ByteArray) = txt [false] from rfl, txt_append, List.append_assoc, ← List.replicate_succ']
    rw [if_neg (by rw [txt_size]; simp; omega), if_pos (by rw [txt_size]; simp; omega), e]
    exact ih k (i + 1) (by omega) (by omega)
theorem bytes_tells (l : List Bool) (hl : l.length ≤ 100000) (k : Nat) (hk : l.length + 40 < k) : mastheadref11_Bytes.f k (txt l) = some (strOfNums (pk l)) := by
  have := fill_loop l hl ((8 - l.length % 8) % 8) (by omega) (by omega) ((8 - l.length % 8) % 8) k 0 (by omega) (by omega)
  simpa [mastheadref11_Bytes.f] using this
/-- The bits of bytes. -/
def allOf (bs : List Int) : List Bool := bs.flatMap (fun c => bitsOf c.toNat 8)
theorem allOf_length (bs : List Int) : (allOf bs).length = 8 * bs.length := by
  induction bs with
  | nil => rfl
  | cons b bs ih =>
    have : allOf (b :: bs) = bitsOf b.toNat 8 ++ allOf bs := by simp [allOf]
    rw [this, List.length_append, bitsOf_length, ih, List.length_cons]
    omega
theorem all_loop (bs : List Int) (hb : ∀ x ∈ bs, 0 ≤ x ∧ x < 256) (hl : bs.length ≤ 1000) (d : Nat) : ∀ (k i : Nat), i + d = bs.length → d + 10 < k →
    mastheadref11_All.l0 k (txt (allOf (bs.take i))) bs (bs.length : Int) (i : Int) = some (txt (allOf bs)) := by
  induction d with
  | zero =>
    intro k i hi hk
    obtain ⟨k, rfl⟩ : ∃ m, k = m + 1 := ⟨k - 1, by omega⟩
    simp only [mastheadref11_All.l0]
    rw [if_neg (by omega), List.take_of_length_le (by omega)]
  | succ d ih =>
    intro k i hi hk
    obtain ⟨k, rfl⟩ : ∃ m, k = m + 1 := ⟨k - 1, by omega⟩
    have hil : i < bs.length := by omega
    simp only [mastheadref11_All.l0]
    have x1 : rd bs (i : Int) = bs[i] := by simp [rd, hil]
    have hx := hb bs[i] (List.getElem_mem hil)
    have e8 : (8 : Int) = ((8 : Nat) : Int) := rfl
    have ex : bs[i] = ((bs[i].toNat : Nat) : Int) := by omega
    rw [if_pos (by omega), if_pos (by omega), if_pos (by omega), x1, u64w_id (by omega) (by omega)]
    have hbits := bits_tells bs[i].toNat (by omega) 8 (by omega) k (by omega)
    rw [← ex, ← e8] at hbits
    rw [hbits]
    simp only [Option.bind_some]
    have hlt : (allOf (bs.take i)).length = 8 * i := by rw [allOf_length, List.length_take]; omega
    rw [if_pos (by rw [txt_size, txt_size, bitsOf_length]; omega), txt_append, wrap64_succ (by omega)]
    have e : allOf (bs.take i) ++ bitsOf bs[i].toNat 8 = allOf (bs.take (i + 1)) := by
      unfold allOf
      rw [List.take_succ_eq_append_getElem hil, List.flatMap_append]
      simp
    rw [e]
    exact ih k (i + 1) (by omega) (by omega)
theorem all_tells (bs : List Int) (hb : ∀ x ∈ bs, 0 ≤ x ∧ x < 256) (hl : bs.length ≤ 1000) (k : Nat) (hk : bs.length + 20 < k) : mastheadref11_All.f k bs = some (txt (allOf bs)) := by
  have := all_loop bs hb hl bs.length k 0 (by omega) (by omega)
  simpa [mastheadref11_All.f, allOf, txt] using this
end Go.Proofs.Ytakpohcobpbjkaa.Hand
