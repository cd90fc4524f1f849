/- Bits in a row, their bytes, their texts: plain laws. -/
import Derived.WalkSmall
import Derived.Test.YtakpohcobpbjkaaPlain
namespace Go.Proofs.Ytakpohcobpbjkaa.Plain
open Go Go.RowKit Go.Proofs.YtakpohcobpbjkaaW.PrintWords Go.Proofs.YtakpohcobpbjkaaW.PrintMore
set_option linter.unusedVariables false

/-- The number of bits, the highest first. -/
def nv (l : List Bool) : Nat := l.foldl (fun a b => 2 * a + b.toNat) 0
theorem nv_snoc (l : List Bool) (b : Bool) : nv (l ++ [b]) = 2 * nv l + b.toNat := by simp [nv]
theorem nv_zeros (l : List Bool) (k : Nat) : nv (l ++ List.replicate k false) = nv l * 2 ^ k := by
  induction k with
  | zero => simp
  | succ k ih =>
    rw [List.replicate_succ', ← List.append_assoc, nv_snoc, ih, Nat.pow_succ]
    simp
    rw [Nat.mul_comm (2 ^ k) 2, Nat.mul_left_comm]
theorem nv_lt (l : List Bool) : nv l < 2 ^ l.length := by
  suffices h : ∀ n (l : List Bool), l.length = n → nv l < 2 ^ n from h _ l rfl
  intro n
  induction n with
  | zero =>
    intro l hl
    cases l with
    | nil => simp [nv]
    | cons => simp at hl
  | succ n ih =>
    intro l hl
    have hne : l ≠ [] := by intro e; subst e; simp at hl
    have e := (List.dropLast_concat_getLast hne).symm
    have h1 := ih l.dropLast (by simp; omega)
    rw [e, nv_snoc, Nat.pow_succ]
    have : (l.getLast hne).toNat ≤ 1 := by cases l.getLast hne <;> simp
    omega
/-- Eight bits of a row, from a place on, filled with noughts. -/
def chunk (l : List Bool) (j : Nat) : List Bool := (l.drop (8 * j)).take 8 ++ List.replicate (8 - ((l.drop (8 * j)).take 8).length) false
theorem chunk_length (l : List Bool) (j : Nat) : (chunk l j).length = 8 := by
  unfold chunk
  simp
  omega
def byteAt (l : List Bool) (j : Nat) : Int := (nv (chunk l j) : Nat)
theorem byteAt_bounds (l : List Bool) (j : Nat) : 0 ≤ byteAt l j ∧ byteAt l j < 256 := by
  have := nv_lt (chunk l j)
  rw [chunk_length] at this
  unfold byteAt
  omega
/-- A row's bytes. -/
def pk (l : List Bool) : List Int := (List.range ((l.length + 7) / 8)).map (byteAt l)
theorem pk_length (l : List Bool) : (pk l).length = (l.length + 7) / 8 := by simp [pk]
theorem pk_bytes (l : List Bool) : ∀ x ∈ pk l, 0 ≤ x ∧ x < 256 := by
  intro x hx
  simp only [pk, List.mem_map] at hx
  obtain ⟨j, _, rfl⟩ := hx
  exact byteAt_bounds l j
theorem chunk_app (l r : List Bool) (j : Nat) (h : 8 * j + 8 ≤ l.length) : chunk (l ++ r) j = chunk l j := by
  unfold chunk
  rw [List.drop_append_of_le_length (by omega), List.take_append_of_le_length (by simp; omega)]
theorem chunk_last (l : List Bool) (q m : Nat) (hl : l.length = 8 * q + m) (hm : m < 8) : chunk l q = l.drop (8 * q) ++ List.replicate (8 - m) false := by
  unfold chunk
  rw [List.take_of_length_le (by simp; omega), List.length_drop, hl, Nat.add_sub_cancel_left]
theorem bit_step (a m : Nat) (b : Bool) (hm : m < 8) (ha : a < 2 ^ m) :
    Go.bits .or .u8 ((a * 2 ^ (8 - m) : Nat) : Int) ((b.toNat : Int) * 2 ^ (7 - m)) = (((2 * a + b.toNat) * 2 ^ (7 - m) : Nat) : Int) := by
  have hp : 2 ^ (8 - m) = 2 * 2 ^ (7 - m) := by rw [← Nat.pow_succ']; congr 1; omega
  have hq : 2 ^ m * 2 ^ (8 - m) = 256 := by rw [← Nat.pow_add]; rw [show m + (8 - m) = 8 from by omega]
  have h1 : a * 2 ^ (8 - m) < 256 := by
    rw [← hq]; exact Nat.mul_lt_mul_of_pos_right ha (Nat.two_pow_pos _)
  have hb : b.toNat ≤ 1 := by cases b <;> simp
  have h2 : b.toNat * 2 ^ (7 - m) < 2 ^ (8 - m) := by
    have : b.toNat * 2 ^ (7 - m) ≤ 1 * 2 ^ (7 - m) := Nat.mul_le_mul_right _ hb
    have := Nat.two_pow_pos (7 - m)
    omega
  have h3 : 2 ^ (8 - m) ≤ 2 ^ 8 := Nat.pow_le_pow_right (by decide) (by omega)
  have h4 : a * 2 ^ (8 - m) % 2 ^ (8 - m) = 0 := Nat.mul_mod_left _ _
  have e : ((b.toNat : Int) * 2 ^ (7 - m)) = ((b.toNat * 2 ^ (7 - m) : Nat) : Int) := by simp
  rw [e]
  rw [bits_join .u8 8 (by decide) wraps_u8 (8 - m) _ _ (Int.natCast_nonneg _) (by exact_mod_cast h4) (by omega) (Int.natCast_nonneg _) (by exact_mod_cast h2) (by omega)]
  have : (2 * a + b.toNat) * 2 ^ (7 - m) = a * 2 ^ (8 - m) + b.toNat * 2 ^ (7 - m) := by
    rw [hp, Nat.add_mul, Nat.mul_comm 2 a, Nat.mul_assoc]
  rw [this]
  simp
theorem map_range_set (f g : Nat → Int) (k : Nat) (v : Int) (h : ∀ j, j < k → f j = g j) (hv : v = g k) : ((List.range (k + 1)).map f).set k v = (List.range (k + 1)).map g := by
  rw [List.range_succ, List.map_append, List.map_append]
  have : ((List.range k).map f).length = k := by simp
  rw [List.set_append_right _ _ (by omega), this, Nat.sub_self]
  have e : (List.range k).map f = (List.range k).map g := List.map_congr_left (fun j hj => h j (List.mem_range.1 hj))
  simp [e, hv]
/-- The bytes behind one bit more: as the writer lays it. -/
def grown (bs : List Int) (n : Int) : List Int := if n % 8 = 0 then bs ++ [0] else bs
def put1 (bs : List Int) (n x : Int) : List Int := (grown bs n).set (n / 8).toNat (Go.bits .or .u8 (rd (grown bs n) (n / 8)) (Go.bits .and .u64 x 1 % 256 * 2 ^ (7 - n % 8).toNat % 256))
theorem put1_tells (l : List Bool) (x : Int) (h0 : 0 ≤ x) (h1 : x < 18446744073709551616) : put1 (pk l) (l.length : Int) x = pk (l ++ [decide (x % 2 = 1)]) := by
  obtain ⟨b, hb⟩ : ∃ b : Bool, decide (x % 2 = 1) = b := ⟨_, rfl⟩
  have hx : Go.bits .and .u64 x 1 = (b.toNat : Int) := by
    rw [and_one_u64 x h0 (by omega)]
    cases b
    · simp at hb ⊢; omega
    · simp at hb ⊢; omega
  rw [hb]
  unfold put1
  rw [hx]
  obtain ⟨q, m, hl, hm⟩ : ∃ q m, l.length = 8 * q + m ∧ m < 8 := ⟨l.length / 8, l.length % 8, by omega, by omega⟩
  have e1 : ((l.length : Int) / 8) = (q : Int) := by omega
  have e2 : (7 - (l.length : Int) % 8).toNat = 7 - m := by omega
  have hbn : b.toNat ≤ 1 := by cases b <;> simp
  have hp : 2 ^ (7 - m) ≤ 2 ^ 7 := Nat.pow_le_pow_right (by decide) (by omega)
  have hpp := Nat.two_pow_pos (7 - m)
  have hbp : b.toNat * 2 ^ (7 - m) ≤ 1 * 2 ^ (7 - m) := Nat.mul_le_mul_right _ hbn
  have e3 : (b.toNat : Int) % 256 * 2 ^ (7 - m) % 256 = (b.toNat : Int) * 2 ^ (7 - m) := by
    have e0 : (b.toNat : Int) % 256 = b.toNat := Int.emod_eq_of_lt (by omega) (by omega)
    have : ((b.toNat : Int) * 2 ^ (7 - m)) = ((b.toNat * 2 ^ (7 - m) : Nat) : Int) := by simp
    rw [e0, this, Int.emod_eq_of_lt (by omega) (by omega)]
  rw [e1, e2, e3, Int.toNat_natCast]
  have hn : nv (l.drop (8 * q)) < 2 ^ m := by
    have := nv_lt (l.drop (8 * q))
    rwa [List.length_drop, hl, Nat.add_sub_cancel_left] at this
  have hnew : byteAt (l ++ [b]) q = (((2 * nv (l.drop (8 * q)) + b.toNat) * 2 ^ (7 - m) : Nat) : Int) := by
    unfold byteAt
    congr 1
    by_cases h7 : m = 7
    · subst h7
      unfold chunk
      rw [List.take_of_length_le (by simp; omega), List.drop_append_of_le_length (by omega)]
      simp [hl, nv_snoc]
    · rw [chunk_last (l ++ [b]) q (m + 1) (by simp; omega) (by omega), List.drop_append_of_le_length (by omega), nv_zeros, nv_snoc]
      congr 2
      omega
  have hsame : ∀ j, j < q → byteAt l j = byteAt (l ++ [b]) j := by
    intro j hj
    unfold byteAt
    rw [chunk_app l [b] j (by omega)]
  have hlen : (((l ++ [b]).length + 7) / 8) = q + 1 := by simp; omega
  by_cases h0 : m = 0
  · subst h0
    have hg : grown (pk l) (l.length : Int) = (List.range (q + 1)).map (fun j => if j < q then byteAt l j else 0) := by
      unfold grown
      rw [if_pos (by omega), List.range_succ, List.map_append]
      unfold pk
      rw [show (l.length + 7) / 8 = q from by omega]
      congr 1
      · exact List.map_congr_left (fun j hj => by rw [if_pos (List.mem_range.1 hj)])
      · simp
    rw [hg]
    unfold pk
    rw [hlen]
    refine map_range_set _ _ q _ (fun j hj => by rw [if_pos hj]; exact hsame j hj) ?_
    rw [hnew]
    have hr : rd ((List.range (q + 1)).map (fun j => if j < q then byteAt l j else 0)) (q : Int) = ((nv (l.drop (8 * q)) * 2 ^ (8 - 0) : Nat) : Int) := by
      have hd : l.drop (8 * q) = [] := by simp; omega
      rw [hd]
      simp [rd, nv]
    rw [hr]
    exact bit_step _ 0 b hm hn
  · have hg : grown (pk l) (l.length : Int) = pk l := by
      unfold grown
      rw [if_neg (by omega)]
    rw [hg]
    have hpk : pk l = (List.range (q + 1)).map (byteAt l) := by
      unfold pk
      rw [show (l.length + 7) / 8 = q + 1 from by omega]
    rw [hpk]
    unfold pk
    rw [hlen]
    refine map_range_set _ _ q _ hsame ?_
    rw [hnew]
    have hr : rd ((List.range (q + 1)).map (byteAt l)) (q : Int) = ((nv (l.drop (8 * q)) * 2 ^ (8 - m) : Nat) : Int) := by
      simp only [rd, Int.toNat_natCast]
      rw [List.getD_eq_getElem?_getD, List.getElem?_eq_getElem (by simp)]
      simp only [List.getElem_map, List.getElem_range, Option.getD_some]
      unfold byteAt
      rw [chunk_last l q m hl hm, nv_zeros]
    rw [hr]
    exact bit_step _ m b hm hn
/-- A number's lowest bits, so many, the highest of them first. -/
def bitsOf (n : Nat) : Nat → List Bool
  | 0 => []
  | k + 1 => decide (n / 2 ^ k % 2 = 1) :: bitsOf n k
theorem bitsOf_length (n : Nat) : ∀ k, (bitsOf n k).length = k
  | 0 => rfl
  | k + 1 => by simp [bitsOf, bitsOf_length n k]
/-- Bits as a text. -/
def sgn (b : Bool) : UInt8 := if b then 49 else 48
def txt (l : List Bool) : ByteArray := ⟨(l.map sgn).toArray⟩
theorem txt_append (a b : List Bool) : txt a ++ txt b = txt (a ++ b) := by
  apply ByteArray.ext
  simp [txt, ByteArray.data_append]
theorem txt_size (l : List Bool) : (txt l).size = l.length := by simp [txt, ByteArray.size]
end Go.Proofs.Ytakpohcobpbjkaa.Plain
