/- What was put is what is taken: the plain law of rows of bits. -/
import Derived.Test.YtmpkopkibkjgfaaReader3
namespace Go.Proofs.Ytmpkopkibkjgfaa.Hand
open Go Go.RowKit Go.Proofs.Ytmpkopkibkjgfaa.Plain Go.Proofs.Ytmpkopkibkjgfaa.PAll Go.Proofs.YtmpkopkibkjgfaaW.PrintWords Go.Proofs.YtmpkopkibkjgfaaW.PrintLast Go.Proofs.YtmpkopkibkjgfaaW.PrintMore
set_option linter.unusedVariables false
set_option linter.unusedSimpArgs false
/-- A part: (Ones, N, M). -/
abbrev Part := Bool × Int × Int
def kOp : Kd Part := Kd.pair Kd.bool (Kd.pair (Kd.int .u64) (Kd.int .i64))
def zOp : Part := (false, 0, 0)
def rdP (xs : List Part) (i : Int) : Part := xs.getD i.toNat zOp
theorem kOp_open {w : World} {x : Part} {cs : List Value} (h : kOp.K w x cs) : cs = [.bool x.1, .int .u64 x.2.1, .int .i64 x.2.2] := by
  obtain ⟨_, _, rfl, rfl, ⟨_, _, rfl, rfl, rfl⟩⟩ := h
  rfl
theorem at_op {w : World} {A : Option Addr} {n : Nat} {xs : List Part} (h : Kd.C kOp w A n xs) (i : Int) (h0 : 0 ≤ i) (h1 : i < n) : ∃ ad, A = some ad ∧ w.cell? (ad.add (i.toNat * 3)) = some (.bool (rdP xs i).1) ∧ w.cell? ⟨(ad.add (i.toNat * 3)).block, (ad.add (i.toNat * 3)).off + 1, none⟩ = some (.int .u64 (rdP xs i).2.1) ∧ w.cell? ⟨(ad.add (i.toNat * 3)).block, (ad.add (i.toNat * 3)).off + 2, none⟩ = some (.int .i64 (rdP xs i).2.2) := by
  obtain ⟨ad, c, e, _, hK, hc0⟩ := Kd.C_get h zOp i h0 h1
  have hc : ∀ j u, c[j]? = some u → w.cell? (ad.add (i.toNat * 3 + j)) = some u := hc0
  obtain rfl := kOp_open hK
  exact ⟨ad, e, hc 0 _ rfl, by rw [← add_field _ _ 1 (by omega)]; exact hc 1 _ rfl, by rw [← add_field _ _ 2 (by omega)]; exact hc 2 _ rfl⟩
theorem rdP_mem {xs : List Part} {i : Int} (h0 : 0 ≤ i) (h1 : i < (xs.length : Int)) : rdP xs i ∈ xs := by
  unfold rdP
  rw [List.getD_eq_getElem?_getD, List.getElem?_eq_getElem (by omega)]
  exact List.getElem_mem _
theorem bitsOf_snoc (n : Nat) : ∀ k, bitsOf n (k + 1) = bitsOf (n / 2) k ++ [decide (n % 2 = 1)]
  | 0 => by simp [bitsOf]
  | k + 1 => by
    have ih := bitsOf_snoc n k
    have e : n / 2 ^ (k + 1) = n / 2 / 2 ^ k := by rw [Nat.pow_succ, Nat.mul_comm, Nat.div_div_eq_div_mul]
    have h1 : bitsOf n (k + 1 + 1) = decide (n / 2 ^ (k + 1) % 2 = 1) :: bitsOf n (k + 1) := rfl
    have h2 : bitsOf (n / 2) (k + 1) = decide (n / 2 / 2 ^ k % 2 = 1) :: bitsOf (n / 2) k := rfl
    rw [h1, ih, e, h2]
    rfl
theorem nv_bitsOf : ∀ (k n : Nat), nv (bitsOf n k) = n % 2 ^ k
  | 0, n => by simp [bitsOf, nv, Nat.mod_one]
  | k + 1, n => by
    rw [bitsOf_snoc, nv_snoc, nv_bitsOf k (n / 2)]
    have hp : 2 ^ (k + 1) = 2 * 2 ^ k := by rw [Nat.pow_succ, Nat.mul_comm]
    rw [hp, Nat.mod_mul]
    have : (decide (n % 2 = 1)).toNat = n % 2 := by
      by_cases h : n % 2 = 1
      · rw [decide_eq_true h, h]; rfl
      · rw [decide_eq_false h]; simp; omega
    rw [this]
    omega
theorem bitsOf_nv (l : List Bool) : bitsOf (nv l) l.length = l := by
  suffices h : ∀ n (l : List Bool), l.length = n → bitsOf (nv l) n = l from h _ l rfl
  intro n
  induction n with
  | zero =>
    intro l hl
    obtain rfl : l = [] := List.length_eq_zero_iff.1 hl
    rfl
  | succ n ih =>
    intro l hl
    have hne : l ≠ [] := by intro e; subst e; simp at hl
    have e := (List.dropLast_concat_getLast hne).symm
    have hd : l.dropLast.length = n := by simp; omega
    have h1 := ih l.dropLast hd
    generalize l.dropLast = t at *
    generalize l.getLast hne = c at *
    subst e
    rw [bitsOf_snoc, nv_snoc]
    have h2 : (2 * nv t + c.toNat) / 2 = nv t := by cases c <;> simp <;> omega
    have h3 : decide ((2 * nv t + c.toNat) % 2 = 1) = c := by cases c <;> simp <;> omega
    rw [h2, h3, h1]
/-- The noughts that fill a row's last byte. -/
def fillOf (l : List Bool) : Nat := (8 - l.length % 8) % 8
theorem allOf_pk (l : List Bool) : allOf (pk l) = l ++ List.replicate (fillOf l) false := by
  have key : ∀ q, q ≤ (l.length + 7) / 8 → ((List.range q).map (byteAt l)).flatMap (fun c => bitsOf c.toNat 8) = (l ++ List.replicate (fillOf l) false).take (8 * q) := by
    intro q
    induction q with
    | zero => intro _; simp
    | succ q ih =>
      intro hq
      rw [List.range_succ, List.map_append, List.flatMap_append, ih (by omega), Nat.mul_succ, List.take_add]
      congr 1
      have e1 : (byteAt l q).toNat = nv (chunk l q) := by unfold byteAt; simp
      have e2 := bitsOf_nv (chunk l q)
      rw [chunk_length] at e2
      have e3 := chunk_pad l (fillOf l) q (by unfold fillOf; omega) (by omega) (by unfold fillOf; omega)
      simp only [List.map_cons, List.map_nil, List.flatMap_cons, List.flatMap_nil, List.append_nil]
      rw [e1, e2, e3]
  have := key _ (Nat.le_refl _)
  unfold allOf pk
  rw [this]
  apply List.take_of_length_le
  simp
  unfold fillOf
  omega
/-- What a part puts. -/
def codeOf (x : Part) : List Bool := if x.1 then List.replicate (mn (mx (mn x.2.2 100) 0) 65536).toNat true ++ [false] else bitsOf x.2.1.toNat (mn (mx x.2.2 0) 64).toNat
def codeAll (xs : List Part) : List Bool := xs.flatMap codeOf
theorem codeOf_length (x : Part) : (codeOf x).length ≤ 101 := by
  unfold codeOf
  split
  · simp
    unfold mn mx
    repeat' split
    all_goals omega
  · rw [bitsOf_length]
    unfold mn mx
    repeat' split
    all_goals omega
theorem codeAll_snoc (xs : List Part) (x : Part) : codeAll (xs ++ [x]) = codeAll xs ++ codeOf x := by simp [codeAll]
theorem take_rdP {xs : List Part} {k : Int} (h0 : 0 ≤ k) (h1 : k < (xs.length : Int)) : xs.take (k + 1).toNat = xs.take k.toNat ++ [rdP xs k] := by
  have e : (k + 1).toNat = k.toNat + 1 := by omega
  rw [e, List.take_succ_eq_append_getElem (by omega)]
  unfold rdP
  rw [List.getD_eq_getElem?_getD, List.getElem?_eq_getElem (by omega)]
  rfl
theorem codeAll_step {xs : List Part} {k : Int} (h0 : 0 ≤ k) (h1 : k < (xs.length : Int)) : codeAll (xs.take (k + 1).toNat) = codeAll (xs.take k.toNat) ++ codeOf (rdP xs k) := by rw [take_rdP h0 h1, codeAll_snoc]
theorem codeAll_length (xs : List Part) : (codeAll xs).length ≤ 101 * xs.length := by
  induction xs with
  | nil => simp [codeAll]
  | cons x xs ih =>
    have e : codeAll (x :: xs) = codeOf x ++ codeAll xs := rfl
    have := codeOf_length x
    rw [e, List.length_append, List.length_cons]
    omega
theorem codeAll_rest {xs : List Part} {k : Int} (h0 : 0 ≤ k) (h1 : k < (xs.length : Int)) : ∃ T, (allOf (pk (codeAll xs))).drop (codeAll (xs.take k.toNat)).length = codeOf (rdP xs k) ++ T := by
  have e : xs = xs.take (k + 1).toNat ++ xs.drop (k + 1).toNat := (List.take_append_drop _ _).symm
  have e2 : codeAll xs = codeAll (xs.take (k + 1).toNat) ++ codeAll (xs.drop (k + 1).toNat) := by
    have h : ∀ a b, codeAll (a ++ b) = codeAll a ++ codeAll b := fun a b => by simp [codeAll]
    rw [← h, ← e]
  refine ⟨codeAll (xs.drop (k + 1).toNat) ++ List.replicate (fillOf (codeAll xs)) false, ?_⟩
  rw [allOf_pk]
  generalize fillOf (codeAll xs) = z
  rw [e2, codeAll_step h0 h1]
  simp [List.append_assoc]
theorem codeAll_take_le (xs : List Part) (k : Nat) : (codeAll (xs.take k)).length ≤ (codeAll xs).length := by
  have h : ∀ a b, codeAll (a ++ b) = codeAll a ++ codeAll b := fun a b => by simp [codeAll]
  have e : codeAll xs = codeAll (xs.take k) ++ codeAll (xs.drop k) := by rw [← h, List.take_append_drop]
  rw [e, List.length_append]
  omega
theorem codeAll_end (xs : List Part) : cleanOf ((allOf (pk (codeAll xs))).drop (codeAll xs).length) = true := by
  rw [allOf_pk, List.drop_append_of_le_length (Nat.le_refl _), List.drop_length, List.nil_append]
  unfold cleanOf
  have h1 : (List.replicate (fillOf (codeAll xs)) false).length < 8 := by simp; unfold fillOf; omega
  have h2 : nv (List.replicate (fillOf (codeAll xs)) false) = 0 := by
    have := nv_zeros [] (fillOf (codeAll xs))
    simpa [nv] using this
  rw [decide_eq_true h1, decide_eq_true h2]
  rfl
theorem takeOf_code (n q : Nat) (T : List Bool) : takeOf (bitsOf n q ++ T) q = (n % 2 ^ q, 0, q) := by
  unfold takeOf
  rw [if_neg (by simp [bitsOf_length]), List.take_append_of_le_length (by rw [bitsOf_length]; omega), List.take_of_length_le (by rw [bitsOf_length]; omega), nv_bitsOf]
theorem lead_code : ∀ (j : Nat) (T : List Bool), lead (List.replicate j true ++ false :: T) = j
  | 0, T => rfl
  | j + 1, T => by
    rw [List.replicate_succ, List.cons_append]
    show lead (List.replicate j true ++ false :: T) + 1 = j + 1
    rw [lead_code j T]
theorem runOf_code (j : Nat) (T : List Bool) (hj : j ≤ 100) : runOf ((List.replicate j true ++ [false]) ++ T) 100 = (j, 0, j + 1) := by
  have e : (List.replicate j true ++ [false]) ++ T = List.replicate j true ++ false :: T := by simp
  rw [e]
  unfold runOf
  rw [lead_code, if_neg (by omega), if_neg (by simp)]
end Go.Proofs.Ytmpkopkibkjgfaa.Hand
