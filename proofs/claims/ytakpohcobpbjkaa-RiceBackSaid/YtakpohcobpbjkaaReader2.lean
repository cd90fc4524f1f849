/- What the reader's methods compute, over rows of bits. -/
import Derived.WalkSmall
import Derived.Test.YtakpohcobpbjkaaBitRef
namespace Go.Proofs.Ytakpohcobpbjkaa.Hand
open Go Go.RowKit Go.Proofs.Ytakpohcobpbjkaa.Plain Go.Proofs.Ytakpohcobpbjkaa.PAll Go.Proofs.YtakpohcobpbjkaaW.PrintWords Go.Proofs.YtakpohcobpbjkaaW.PrintLast Go.Proofs.YtakpohcobpbjkaaW.PrintMore
set_option linter.unusedVariables false
set_option linter.unusedSimpArgs false
theorem bitsOf_get (n : Nat) : ∀ (k i : Nat) (h : i < (bitsOf n k).length), (bitsOf n k)[i] = decide (n / 2 ^ (k - 1 - i) % 2 = 1)
  | 0, i, h => by simp [bitsOf] at h
  | k + 1, 0, h => by simp [bitsOf]
  | k + 1, i + 1, h => by
    have hk : i < (bitsOf n k).length := by simpa [bitsOf] using h
    have := bitsOf_get n k i hk
    rw [show k + 1 - 1 - (i + 1) = k - 1 - i from by omega, ← this]
    rfl
theorem allOf_cons (b : Int) (bs : List Int) : allOf (b :: bs) = bitsOf b.toNat 8 ++ allOf bs := by simp [allOf]
theorem allOf_get : ∀ (bs : List Int) (p : Nat) (h : p < 8 * bs.length), (allOf bs)[p]? = some (decide ((bs.getD (p / 8) 0).toNat / 2 ^ (7 - p % 8) % 2 = 1))
  | [], p, h => by simp at h
  | b :: bs, p, h => by
    rw [allOf_cons]
    by_cases hp : p < 8
    · rw [List.getElem?_append_left (by rw [bitsOf_length]; exact hp), List.getElem?_eq_getElem (by rw [bitsOf_length]; exact hp), bitsOf_get]
      rw [show p / 8 = 0 from by omega, show p % 8 = p from by omega]
      rfl
    · rw [List.getElem?_append_right (by rw [bitsOf_length]; omega), bitsOf_length, allOf_get bs (p - 8) (by simp at h; omega)]
      rw [show p / 8 = (p - 8) / 8 + 1 from by omega, show (p - 8) % 8 = p % 8 from by omega]
      rfl
theorem odd_nat (z : Nat) : (z : Int) % 2 = (((decide (z % 2 = 1)).toNat : Nat) : Int) := by
  by_cases hz : z % 2 = 1
  · rw [decide_eq_true hz]; simp; omega
  · rw [decide_eq_false hz]; simp; omega
theorem bit_tells (bs : List Int) (hb : ∀ x ∈ bs, 0 ≤ x ∧ x < 256) (hl : bs.length ≤ 1000) (at_ : Int) (p : Nat) (h : p < 8 * bs.length) :
    bit_Reader_bit.f bs at_ (p : Int) = some (((((allOf bs).getD p false).toNat : Nat) : Int), at_) := by
  unfold bit_Reader_bit.f
  have e1 : wrap64 (Int.tdiv (p : Int) 8) = ((p / 8 : Nat) : Int) := by rw [Int.tdiv_eq_ediv_of_nonneg (by omega), wrap64_id (by omega) (by omega)]; simp
  have e2 : wrap64 (7 - Int.tmod (p : Int) 8) = ((7 - p % 8 : Nat) : Int) := by rw [Int.tmod_eq_emod_of_nonneg (by omega), wrap64_id (by omega) (by omega)]; omega
  rw [e1, e2, if_pos (by omega), if_pos (by omega), if_pos (by omega)]
  have hil : p / 8 < bs.length := by omega
  have x1 : rd bs ((p / 8 : Nat) : Int) = bs.getD (p / 8) 0 := by simp only [rd, Int.toNat_natCast]
  have x2 : bs.getD (p / 8) 0 = bs[p / 8] := by rw [List.getD_eq_getElem?_getD, List.getElem?_eq_getElem hil]; rfl
  have hx := hb bs[p / 8] (List.getElem_mem hil)
  have x3 : (allOf bs).getD p false = decide ((bs.getD (p / 8) 0).toNat / 2 ^ (7 - p % 8) % 2 = 1) := by rw [List.getD_eq_getElem?_getD, allOf_get bs p h]; rfl
  rw [x3, x1, x2]
  obtain ⟨b, hbb⟩ := Int.eq_ofNat_of_zero_le hx.1
  rw [hbb]
  have es : shr .u8 (b : Int) ((7 - p % 8 : Nat) : Int) = ((b / 2 ^ (7 - p % 8) : Nat) : Int) := by
    unfold shr
    rw [Nat.min_eq_left (by simp [IntKind.bits]; omega)]
    simp only [Int.toNat_natCast]
    simp
  have hle : b / 2 ^ (7 - p % 8) ≤ b := Nat.div_le_self _ _
  rw [es, u64w_id (Int.natCast_nonneg _) (by omega), and_one_u64 _ (Int.natCast_nonneg _) (by omega)]
  simp only [Option.getD_some, Int.toNat_natCast]
  rw [odd_nat]
theorem left_tells (bs : List Int) (hl : bs.length ≤ 1000) (p : Nat) (hp : p ≤ 8 * bs.length) : bit_Reader_Left.f bs (p : Int) = some ((((allOf bs).drop p).length : Int), (p : Int)) := by
  unfold bit_Reader_Left.f
  rw [wrap64_id (n := 8 * (bs.length : Int)) (by omega) (by omega), wrap64_id (by omega) (by omega), List.length_drop, allOf_length]
  congr 2
  omega
theorem getD_drop (l : List Bool) (p i : Nat) : (l.drop p).getD i false = l.getD (p + i) false := by simp [List.getD_eq_getElem?_getD]
theorem nv_take_succ (s : List Bool) (i : Nat) (h : i < s.length) : nv (s.take (i + 1)) = 2 * nv (s.take i) + (s.getD i false).toNat := by
  rw [List.take_succ_eq_append_getElem h, nv_snoc, List.getD_eq_getElem?_getD, List.getElem?_eq_getElem h]
  rfl
theorem nv_take_bound (s : List Bool) (i : Nat) (hi : i ≤ 64) : nv (s.take i) < 18446744073709551616 := by
  have h1 := nv_lt (s.take i)
  have h2 : (2 : Nat) ^ (s.take i).length ≤ 2 ^ 64 := Nat.pow_le_pow_right (by decide) (by simp; omega)
  omega
theorem take_loop (bs : List Int) (hb : ∀ x ∈ bs, 0 ≤ x ∧ x < 256) (hl : bs.length ≤ 1000) (p q : Nat) (hq : q ≤ 64) (hp : p + q ≤ 8 * bs.length) (d : Nat) : ∀ (k i : Nat), i + d = q → d < k →
    bit_Reader_Take.l0 k ((nv (((allOf bs).drop p).take i) : Nat) : Int) (q : Int) (i : Int) bs ((p + i : Nat) : Int) = some (((nv (((allOf bs).drop p).take q) : Nat) : Int), 0, ((p + q : Nat) : Int)) := by
  induction d with
  | zero =>
    intro k i hi hk
    obtain ⟨k, rfl⟩ : ∃ m, k = m + 1 := ⟨k - 1, by omega⟩
    simp only [bit_Reader_Take.l0]
    rw [if_neg (by omega), show i = q from by omega]
  | succ d ih =>
    intro k i hi hk
    obtain ⟨k, rfl⟩ : ∃ m, k = m + 1 := ⟨k - 1, by omega⟩
    simp only [bit_Reader_Take.l0]
    have hlen : ((allOf bs).drop p).length = 8 * bs.length - p := by rw [List.length_drop, allOf_length]
    have hs := nv_take_succ ((allOf bs).drop p) i (by omega)
    have hbd := nv_take_bound ((allOf bs).drop p) (i + 1) (by omega)
    rw [getD_drop] at hs
    have hbn : ((allOf bs).getD (p + i) false).toNat ≤ 1 := by cases (allOf bs).getD (p + i) false <;> simp
    rw [if_pos (by omega), bit_tells bs hb hl _ (p + i) (by omega)]
    simp only [Option.bind_some]
    rw [u64w_id (by omega) (by omega), or64 1 (by omega) (by omega) (by omega) (by omega) (by omega) (by omega), wrap64_succ (by omega), wrap64_succ (by omega)]
    have := ih k (i + 1) (by omega) (by omega)
    rw [hs] at this
    rw [show ((nv (((allOf bs).drop p).take i) : Nat) : Int) * 2 + ((((allOf bs).getD (p + i) false).toNat : Nat) : Int) = ((2 * nv (((allOf bs).drop p).take i) + ((allOf bs).getD (p + i) false).toNat : Nat) : Int) from by omega]
    exact this
/-- What a take of q bits tells: the number, the error, how many are taken. -/
def takeOf (s : List Bool) (q : Nat) : Nat × Int × Nat := if s.length < q then (0, 2, 0) else (nv (s.take q), 0, q)
theorem take_tells (bs : List Int) (hb : ∀ x ∈ bs, 0 ≤ x ∧ x < 256) (hl : bs.length ≤ 1000) (p : Nat) (hp : p ≤ 8 * bs.length) (a : Int) (k : Nat) (hk : 100 ≤ k) :
    bit_Reader_Take.f k bs (p : Int) a = some (((takeOf ((allOf bs).drop p) (mn (mx a 0) 64).toNat).1 : Int), (takeOf ((allOf bs).drop p) (mn (mx a 0) 64).toNat).2.1, ((p + (takeOf ((allOf bs).drop p) (mn (mx a 0) 64).toNat).2.2 : Nat) : Int)) := by
  unfold bit_Reader_Take.f
  rw [left_tells bs hl p hp]
  simp only [Option.bind_some]
  obtain ⟨q, hq, hq64⟩ : ∃ q : Nat, mn (mx a 0) 64 = (q : Int) ∧ q ≤ 64 := by
    have h1 : 0 ≤ mn (mx a 0) 64 ∧ mn (mx a 0) 64 ≤ 64 := by unfold mn mx; constructor <;> (repeat' split) <;> omega
    exact ⟨(mn (mx a 0) 64).toNat, by omega, by omega⟩
  rw [hq, Int.toNat_natCast]
  have hlen : ((allOf bs).drop p).length = 8 * bs.length - p := by rw [List.length_drop, allOf_length]
  unfold takeOf
  by_cases h : ((allOf bs).drop p).length < q
  · rw [if_pos (by omega), if_pos h]
    simp
  · rw [if_neg (by omega), if_neg h]
    have := take_loop bs hb hl p q hq64 (by omega) q k 0 (by omega) (by omega)
    simpa [nv] using this
/-- How many ones a row begins with. -/
def lead : List Bool → Nat
  | true :: s => lead s + 1
  | _ => 0
theorem lead_le : ∀ s, lead s ≤ s.length
  | [] => by simp [lead]
  | true :: s => by simp [lead]; exact lead_le s
  | false :: s => by simp [lead]
theorem lead_true : ∀ (s : List Bool) (i : Nat), i < lead s → s.getD i false = true
  | true :: s, 0, _ => rfl
  | true :: s, i + 1, h => by simpa using lead_true s i (by simp [lead] at h; omega)
  | [], i, h => by simp [lead] at h
  | false :: s, i, h => by simp [lead] at h
theorem lead_false : ∀ (s : List Bool), lead s < s.length → s.getD (lead s) false = false
  | true :: s, h => by simpa [lead] using lead_false s (by simp [lead] at h; omega)
  | [], h => by simp [lead] at h
  | false :: s, h => by simp [lead]
/-- What a run tells: how many ones, the error, how many bits are taken. -/
def runOf (s : List Bool) (most : Nat) : Nat × Int × Nat := if most < lead s then (0, 4, 0) else if lead s = s.length then (0, 2, 0) else (lead s, 0, lead s + 1)
theorem run_loop (bs : List Int) (hb : ∀ x ∈ bs, 0 ≤ x ∧ x < 256) (hl : bs.length ≤ 1000) (p : Nat) (hp : p ≤ 8 * bs.length) (most : Nat) (hmm : most ≤ 9223372036854775807) (d : Nat) : ∀ (k i : Nat), i + d = 8 * bs.length - p → d < k → i ≤ lead ((allOf bs).drop p) → i ≤ most →
    bit_Reader_Run.l0 k (most : Int) (i : Int) bs (p : Int) = some (((runOf ((allOf bs).drop p) most).1 : Int), (runOf ((allOf bs).drop p) most).2.1, ((p + (runOf ((allOf bs).drop p) most).2.2 : Nat) : Int)) := by
  have hlen : ((allOf bs).drop p).length = 8 * bs.length - p := by rw [List.length_drop, allOf_length]
  have hle := lead_le ((allOf bs).drop p)
  induction d with
  | zero =>
    intro k i hi hk h1 h2
    obtain ⟨k, rfl⟩ : ∃ m, k = m + 1 := ⟨k - 1, by omega⟩
    simp only [bit_Reader_Run.l0]
    rw [left_tells bs hl p hp]
    simp only [Option.bind_some]
    rw [if_neg (by omega)]
    unfold runOf
    rw [if_neg (by omega), if_pos (by omega)]
    simp
  | succ d ih =>
    intro k i hi hk h1 h2
    obtain ⟨k, rfl⟩ : ∃ m, k = m + 1 := ⟨k - 1, by omega⟩
    simp only [bit_Reader_Run.l0]
    rw [left_tells bs hl p hp]
    simp only [Option.bind_some]
    have e1 : wrap64 ((p : Int) + (i : Int)) = ((p + i : Nat) : Int) := by rw [wrap64_id (by omega) (by omega)]; simp
    rw [if_pos (by omega), e1, bit_tells bs hb hl _ (p + i) (by omega)]
    simp only [Option.bind_some]
    by_cases hlead : i < lead ((allOf bs).drop p)
    · have ht := lead_true _ i hlead
      rw [getD_drop] at ht
      rw [ht]
      simp only [Bool.toNat_true]
      rw [if_neg (by decide)]
      by_cases hmost : i = most
      · subst hmost
        rw [if_pos rfl]
        unfold runOf
        rw [if_pos hlead]
        simp
      · rw [if_neg (by omega), wrap64_succ (by omega)]
        exact ih k (i + 1) (by omega) (by omega) (by omega) (by omega)
    · have hei : lead ((allOf bs).drop p) = i := by omega
      have hf := lead_false ((allOf bs).drop p) (by omega)
      rw [hei, getD_drop] at hf
      rw [hf]
      simp only [Bool.toNat_false]
      rw [if_pos (by decide)]
      unfold runOf
      rw [if_neg (by omega), if_neg (by omega), hei, wrap64_succ (by omega)]
      congr 3
      rw [wrap64_id (by omega) (by omega)]
      simp
theorem run_tells (bs : List Int) (hb : ∀ x ∈ bs, 0 ≤ x ∧ x < 256) (hl : bs.length ≤ 1000) (p : Nat) (hp : p ≤ 8 * bs.length) (a : Int) (ha : a ≤ 9223372036854775807) (k : Nat) (hk : 8 * bs.length < k) :
    bit_Reader_Run.f k bs (p : Int) a = some (((runOf ((allOf bs).drop p) (mx a 0).toNat).1 : Int), (runOf ((allOf bs).drop p) (mx a 0).toNat).2.1, ((p + (runOf ((allOf bs).drop p) (mx a 0).toNat).2.2 : Nat) : Int)) := by
  unfold bit_Reader_Run.f
  obtain ⟨q, hq, hq2⟩ : ∃ q : Nat, mx a 0 = (q : Int) ∧ q ≤ 9223372036854775807 := by
    have h1 : 0 ≤ mx a 0 ∧ mx a 0 ≤ 9223372036854775807 := by unfold mx; split <;> omega
    exact ⟨(mx a 0).toNat, by omega, by omega⟩
  rw [hq, Int.toNat_natCast]
  exact run_loop bs hb hl p hp q hq2 (8 * bs.length - p) k 0 (by omega) (by omega) (by omega) (by omega)
/-- Does what is left fill a byte? -/
def cleanOf (s : List Bool) : Bool := decide (s.length < 8) && decide (nv s = 0)
theorem nv_zero : ∀ (s : List Bool), nv s = 0 ↔ ∀ i, s.getD i false = false := by
  intro s
  suffices h : ∀ n (s : List Bool), s.length = n → (nv s = 0 ↔ ∀ i, s.getD i false = false) from h _ s rfl
  intro n
  induction n with
  | zero =>
    intro s hs
    obtain rfl : s = [] := List.length_eq_zero_iff.1 hs
    simp [nv]
  | succ n ih =>
    intro s hs
    have hne : s ≠ [] := by intro e; subst e; simp at hs
    have e := (List.dropLast_concat_getLast hne).symm
    have hd : s.dropLast.length = n := by simp; omega
    have h1 := ih s.dropLast hd
    generalize s.dropLast = t at *
    generalize s.getLast hne = b at *
    subst e
    rw [nv_snoc]
    constructor
    · intro h i
      have hb : b = false := by cases b <;> simp at h ⊢
      have ht : nv t = 0 := by omega
      subst hb
      have := h1.1 ht i
      rw [List.getD_eq_getElem?_getD, List.getElem?_append]
      split
      · rw [← List.getD_eq_getElem?_getD]; exact this
      · cases hh : i - t.length <;> simp
    · intro h
      have hb : b = false := by
        have := h t.length
        simpa [List.getD_eq_getElem?_getD] using this
      have ht : nv t = 0 := by
        rw [h1]
        intro i
        have := h i
        rw [List.getD_eq_getElem?_getD, List.getElem?_append] at this
        split at this
        · rw [List.getD_eq_getElem?_getD]; exact this
        · rw [List.getD_eq_getElem?_getD, List.getElem?_eq_none (by omega)]; rfl
      rw [ht, hb]
      rfl
theorem clean_loop (bs : List Int) (hb : ∀ x ∈ bs, 0 ≤ x ∧ x < 256) (hl : bs.length ≤ 1000) (p : Nat) (hp : p ≤ 8 * bs.length) (d : Nat) : ∀ (k i : Nat), i + d = 8 * bs.length - p → d < k → (∀ j, j < i → ((allOf bs).drop p).getD j false = false) →
    bit_Reader_Clean.l0 k ((8 * bs.length - p : Nat) : Int) (i : Int) bs (p : Int) = some (decide (nv ((allOf bs).drop p) = 0), (p : Int)) := by
  have hlen : ((allOf bs).drop p).length = 8 * bs.length - p := by rw [List.length_drop, allOf_length]
  induction d with
  | zero =>
    intro k i hi hk h
    obtain ⟨k, rfl⟩ : ∃ m, k = m + 1 := ⟨k - 1, by omega⟩
    simp only [bit_Reader_Clean.l0]
    rw [if_neg (by omega)]
    have : nv ((allOf bs).drop p) = 0 := by
      rw [nv_zero]
      intro j
      by_cases hj : j < i
      · exact h j hj
      · rw [List.getD_eq_getElem?_getD, List.getElem?_eq_none (by omega)]; rfl
    rw [decide_eq_true this]
  | succ d ih =>
    intro k i hi hk h
    obtain ⟨k, rfl⟩ : ∃ m, k = m + 1 := ⟨k - 1, by omega⟩
    simp only [bit_Reader_Clean.l0]
    have e1 : wrap64 ((p : Int) + (i : Int)) = ((p + i : Nat) : Int) := by rw [wrap64_id (by omega) (by omega)]; simp
    rw [if_pos (by omega), e1, bit_tells bs hb hl _ (p + i) (by omega)]
    simp only [Option.bind_some]
    by_cases hbit : (allOf bs).getD (p + i) false = false
    · rw [hbit]
      simp only [Bool.toNat_false]
      rw [if_pos (by decide), wrap64_succ (by omega)]
      refine ih k (i + 1) (by omega) (by omega) (fun j hj => ?_)
      by_cases e : j = i
      · subst e; rw [getD_drop]; exact hbit
      · exact h j (by omega)
    · have hbt : (allOf bs).getD (p + i) false = true := by simpa using hbit
      rw [hbt]
      simp only [Bool.toNat_true]
      rw [if_neg (by decide)]
      have : ¬ nv ((allOf bs).drop p) = 0 := by
        rw [nv_zero]
        intro hh
        have := hh i
        rw [getD_drop, hbt] at this
        cases this
      rw [decide_eq_false this]
theorem clean_tells (bs : List Int) (hb : ∀ x ∈ bs, 0 ≤ x ∧ x < 256) (hl : bs.length ≤ 1000) (p : Nat) (hp : p ≤ 8 * bs.length) (k : Nat) (hk : 8 * bs.length < k) :
    bit_Reader_Clean.f k bs (p : Int) = some (cleanOf ((allOf bs).drop p), (p : Int)) := by
  unfold bit_Reader_Clean.f
  have hlen : ((allOf bs).drop p).length = 8 * bs.length - p := by rw [List.length_drop, allOf_length]
  rw [left_tells bs hl p hp]
  simp only [Option.bind_some]
  unfold cleanOf
  by_cases h : ((allOf bs).drop p).length < 8
  · rw [if_neg (by omega), left_tells bs hl p hp]
    simp only [Option.bind_some]
    rw [decide_eq_true h, Bool.true_and, hlen]
    exact clean_loop bs hb hl p hp (8 * bs.length - p) k 0 (by omega) (by omega) (by intro j hj; omega)
  · rw [if_pos (by omega), decide_eq_false h]
    rfl
/-! The document's own. -/
theorem ref_take (s : List Bool) (hs : s.length ≤ 100000) (q : Nat) (hq : q ≤ 64) (k : Nat) (hk : 100 ≤ k) :
    mastheadref11_Take.f k (txt s) (q : Int) = some (txt (s.drop (takeOf s q).2.2), ((takeOf s q).1 : Int), (takeOf s q).2.1) := by
  unfold mastheadref11_Take.f takeOf
  rw [txt_size]
  by_cases h : s.length < q
  · rw [if_pos (by omega), if_pos h]
    simp
  · rw [if_neg (by omega), if_neg h, if_pos (by omega), if_pos (by omega), Int.toNat_natCast, extract_txt, extract_txt]
    simp only [List.drop_zero, Nat.sub_zero]
    rw [number_tells (s.take q) (by simp; omega) k (by simp; omega)]
    simp only [Option.bind_some]
    rw [List.take_of_length_le (by simp)]
theorem ref_run_end (s : List Bool) (hs : s.length ≤ 100000) (most : Nat) (k : Nat) (hk : 1 ≤ k) :
    mastheadref11_Run.j1 k (txt s) (most : Int) (lead s : Int) = some (txt (s.drop (runOf s most).2.2), ((runOf s most).1 : Int), (runOf s most).2.1) := by
  obtain ⟨k, rfl⟩ : ∃ m, k = m + 1 := ⟨k - 1, by omega⟩
  have hle := lead_le s
  simp only [mastheadref11_Run.j1]
  unfold runOf
  rw [txt_size]
  by_cases h : most < lead s
  · rw [if_pos (by omega), if_pos h]
    simp
  · rw [if_neg (by omega), if_neg h]
    by_cases h2 : lead s = s.length
    · rw [if_pos (by omega), if_pos h2]
      simp
    · rw [if_neg (by omega), if_neg h2, wrap64_succ (by omega), if_pos (by omega), if_pos (by omega), Int.toNat_natCast, extract_txt, List.take_of_length_le (by simp)]
theorem ref_run_loop (s : List Bool) (hs : s.length ≤ 100000) (most : Nat) (d : Nat) : ∀ (k i : Nat), i + d = lead s → d + 1 < k →
    mastheadref11_Run.l0 k (txt s) (most : Int) (i : Int) = some (txt (s.drop (runOf s most).2.2), ((runOf s most).1 : Int), (runOf s most).2.1) := by
  have hle := lead_le s
  induction d with
  | zero =>
    intro k i hi hk
    obtain ⟨k, rfl⟩ : ∃ m, k = m + 1 := ⟨k - 1, by omega⟩
    obtain rfl : i = lead s := by omega
    simp only [mastheadref11_Run.l0]
    have hj := ref_run_end s hs most k (by omega)
    rw [txt_size]
    by_cases h : lead s < s.length
    · have hf := lead_false s h
      rw [List.getD_eq_getElem?_getD, List.getElem?_eq_getElem h] at hf
      simp only [Option.getD_some] at hf
      rw [if_pos (by omega), if_pos (by omega), bt_txt s (lead s) h, hf, if_neg (by decide)]
      exact hj
    · rw [if_neg (by omega)]
      exact hj
  | succ d ih =>
    intro k i hi hk
    obtain ⟨k, rfl⟩ : ∃ m, k = m + 1 := ⟨k - 1, by omega⟩
    simp only [mastheadref11_Run.l0]
    have ht := lead_true s i (by omega)
    rw [List.getD_eq_getElem?_getD, List.getElem?_eq_getElem (by omega)] at ht
    simp only [Option.getD_some] at ht
    rw [txt_size, if_pos (by omega), if_pos (by omega), bt_txt s i (by omega), ht, if_pos (by decide), wrap64_succ (by omega)]
    exact ih k (i + 1) (by omega) (by omega)
theorem ref_run (s : List Bool) (hs : s.length ≤ 100000) (most : Nat) (k : Nat) (hk : s.length + 2 < k) :
    mastheadref11_Run.f k (txt s) (most : Int) = some (txt (s.drop (runOf s most).2.2), ((runOf s most).1 : Int), (runOf s most).2.1) :=
  ref_run_loop s hs most (lead s) k 0 (by omega) (by have := lead_le s; omega)
end Go.Proofs.Ytakpohcobpbjkaa.Hand
