/- The document's sums of any size: what they answer. -/
import Derived.Test.YtpjkhecefppamaaProg
import Derived.Below
import Derived.Deep.Draws
import Derived.Deep.AppendLies
import Derived.Maps.AppendAt
import Derived.OwnWalk
import Derived.Laws.BytesArg
import Derived.Laws.MakeOwn
import Derived.Laws.OwnMore
import Derived.Deep.OwnRows
import Derived.Tactics
import Derived.Lib.ConvBytes
import Derived.Laws.Slices
import Derived.WalkKit
import Derived.KernelRfl
import Derived.RowKit3
import Derived.Deep.LoopGhost
import Derived.Deep.QuietTactic
import Derived.BigQuiet
import Derived.WideLaws
import Derived.Deep.DeepCutAuto
import Derived.Deep.CutBlock
import Derived.Deep.RegionHeld3
import Derived.Laws.Rows
import Derived.Lib.AppendStr
import Derived.ArgAppend
import Derived.Laws.IdiomCopy
import Derived.OrdersHeld
import Derived.Laws.BitsLemmas
import Derived.RowKit
import Derived.StillTailTactics
import Derived.Test.YtpjkhecefppamaaWWords
import Derived.Test.YtpjkhecefppamaaWLast
import Derived.Test.YtpjkhecefppamaaWMore
import Derived.Lib.Hide
import Derived.Test.YtpjkhecefppamaaMAlln3
import Derived.Test.YtpjkhecefppamaaTxnPlain
namespace Go.Proofs.Ytpjkhecefppamaa.Hand
open Go Go.RowKit Go.Proofs.Ytpjkhecefppamaa.Plain Go.Proofs.Ytpjkhecefppamaa.PAll Go.Proofs.YtpjkhecefppamaaW.PrintWords Go.Proofs.YtpjkhecefppamaaW.PrintLast Go.Proofs.YtpjkhecefppamaaW.PrintMore
set_option linter.unusedVariables false
set_option linter.unusedSimpArgs false
/-- The number of digits, the lowest first. -/
def dv : List Int → Int
  | [] => 0
  | x :: l => x + 65536 * dv l
/-- Each digit is one. -/
def Dg (l : List Int) : Prop := ∀ d ∈ l, 0 ≤ d ∧ d < 65536
/-- No nought stands at the end. -/
def Cn (l : List Int) : Prop := l = [] ∨ ∃ (h : l.length - 1 < l.length), l[l.length - 1] ≠ 0
theorem dv_app : ∀ (a b : List Int), dv (a ++ b) = dv a + 65536 ^ a.length * dv b
  | [], b => by simp [dv]
  | x :: a, b => by
    simp only [List.cons_append, dv, dv_app a b, List.length_cons]
    rw [Int.pow_succ, Int.mul_add, ← Int.mul_assoc, Int.mul_comm 65536 (65536 ^ a.length)]
    omega
theorem dv_nonneg : ∀ (l : List Int), Dg l → 0 ≤ dv l
  | [], _ => by simp [dv]
  | x :: l, h => by
    have h1 := h x (by simp)
    have h2 := dv_nonneg l (fun d hd => h d (by simp [hd]))
    simp only [dv]
    omega
theorem dv_lt : ∀ (l : List Int), Dg l → dv l < 65536 ^ l.length
  | [], _ => by simp [dv]
  | x :: l, h => by
    have h1 := h x (by simp)
    have h2 := dv_lt l (fun d hd => h d (by simp [hd]))
    simp only [dv, List.length_cons, Int.pow_succ]
    omega
theorem dv_zeros : ∀ (l : List Int), (∀ d ∈ l, d = 0) → dv l = 0
  | [], _ => rfl
  | x :: l, h => by
    have h1 := h x (by simp)
    have h2 := dv_zeros l (fun d hd => h d (by simp [hd]))
    simp only [dv]
    omega
theorem Dg.take {l : List Int} (h : Dg l) (n : Nat) : Dg (l.take n) := fun d hd => h d (List.mem_of_mem_take hd)
theorem Dg.snoc {l : List Int} (h : Dg l) {d : Int} (h0 : 0 ≤ d) (h1 : d < 65536) : Dg (l ++ [d]) := by
  intro x hx
  rcases List.mem_append.mp hx with hx | hx
  · exact h x hx
  · simp only [List.mem_cons, List.not_mem_nil, or_false] at hx
    subst hx
    exact ⟨h0, h1⟩
theorem rd_at (l : List Int) (i : Nat) (h : i < l.length) : rd l (i : Int) = l[i] := by
  unfold rd
  rw [List.getD_eq_getElem?_getD, Int.toNat_natCast, List.getElem?_eq_getElem h]
  rfl
theorem trim_loop (l : List Int) (hl : l.length ≤ 1000000) : ∀ (n k : Nat), n ≤ l.length → n < k → (∀ j (h : j < l.length), n ≤ j → l[j] = 0) → ∃ r, mastheadref04_trim.l0 k l n = some r ∧ dv r = dv l ∧ (Dg l → Dg r) ∧ Cn r ∧ r.length ≤ l.length
  | n, 0, hn, hk, hz => by omega
  | 0, k + 1, hn, hk, hz => by
    refine ⟨[], ?_, ?_, fun _ d hd => by simp at hd, .inl rfl, by simp⟩
    · unfold mastheadref04_trim.l0
      rw [if_neg (by omega), if_pos (by omega), if_pos (by omega)]
      simp
    · rw [dv_zeros l (fun d hd => by obtain ⟨j, h, rfl⟩ := List.getElem_of_mem hd; exact hz j h (Nat.zero_le _))]
      rfl
  | n + 1, k + 1, hn, hk, hz => by
    have hw : wrap64 (((n + 1 : Nat) : Int) - 1) = (n : Int) := (wrap64_id (by omega) (by omega)).trans (by omega)
    unfold mastheadref04_trim.l0
    rw [if_pos (by omega), hw, if_pos (by omega), if_pos (by omega), rd_at l n (by omega)]
    by_cases h0 : l[n] = 0
    · rw [if_pos h0]
      exact trim_loop l hl n k (by omega) (by omega) (fun j h hj => by
        rcases Nat.lt_or_ge n j with h1 | h1
        · exact hz j h (by omega)
        · obtain rfl : j = n := by omega
          exact h0)
    · rw [if_neg h0, if_pos (by omega), if_pos (by omega), Int.toNat_natCast]
      have htl : (l.take (n + 1)).length = n + 1 := by rw [List.length_take]; omega
      refine ⟨_, rfl, ?_, fun h => h.take _, .inr ⟨by omega, ?_⟩, by omega⟩
      · conv => rhs; rw [← List.take_append_drop (n + 1) l, dv_app]
        rw [dv_zeros (l.drop (n + 1)) (fun d hd => by
          obtain ⟨j, h, rfl⟩ := List.getElem_of_mem hd
          rw [List.getElem_drop]
          exact hz _ _ (by omega))]
        omega
      · simp only [htl, Nat.add_sub_cancel, List.getElem_take]
        exact h0
theorem trim_f (l : List Int) (hl : l.length ≤ 1000000) (k : Nat) (hk : l.length < k) : ∃ r, mastheadref04_trim.f k l = some r ∧ dv r = dv l ∧ (Dg l → Dg r) ∧ Cn r ∧ r.length ≤ l.length :=
  trim_loop l hl l.length k (Nat.le_refl _) hk (fun j h hj => by omega)
theorem tmod_nn {x : Int} (h : 0 ≤ x) : Int.tmod x 65536 = x % 65536 := Int.tmod_eq_emod_of_nonneg h
theorem tdiv_nn {x : Int} (h : 0 ≤ x) : Int.tdiv x 65536 = x / 65536 := Int.tdiv_eq_ediv_of_nonneg h
theorem of_f (v : Int) (h0 : 0 ≤ v) (h1 : v < 18446744073709551616) (k : Nat) (hk : 20 ≤ k) : ∃ r, mastheadref04_Of.f k [v] = some r ∧ dv r = v ∧ Dg r ∧ r.length ≤ 4 := by
  obtain ⟨k, rfl⟩ : ∃ m, k = m + 20 := ⟨k - 20, by omega⟩
  have hstep : ∀ (x : Int), 0 ≤ x → x < 18446744073709551616 → wrap64 (Int.tmod x 65536) = x % 65536 ∧ IntKind.u64.wrap (Int.tdiv x 65536) = x / 65536 := fun x hx0 hx1 => by
    rw [tmod_nn hx0, tdiv_nn hx0]
    exact ⟨wrap64_id (by omega) (by omega), u64w_id (by omega) (by omega)⟩
  obtain ⟨r, hr, hd, hg, hc, hl⟩ := trim_f [v % 65536, v / 65536 % 65536, v / 65536 / 65536 % 65536, v / 65536 / 65536 / 65536 % 65536] (by simp) (k + 13) (by simp)
  refine ⟨r, ?_, ?_, hg ?_, hl⟩
  · unfold mastheadref04_Of.f
    have e1 := hstep v h0 h1
    have e2 := hstep (v / 65536) (by omega) (by omega)
    have e3 := hstep (v / 65536 / 65536) (by omega) (by omega)
    have e4 := hstep (v / 65536 / 65536 / 65536) (by omega) (by omega)
    have w1 : wrap64 (0 + 1) = 1 := wrap64_id (by decide) (by decide)
    have w2 : wrap64 (1 + 1) = 2 := wrap64_id (by decide) (by decide)
    have w3 : wrap64 (2 + 1) = 3 := wrap64_id (by decide) (by decide)
    have w4 : wrap64 (3 + 1) = 4 := wrap64_id (by decide) (by decide)
    rw [show k + 20 = (k + 19) + 1 from rfl]; unfold mastheadref04_Of.l0
    rw [if_pos (by simp), if_pos (by decide), if_pos (by simp), show rd [v] 0 = v from rfl]
    rw [show k + 19 = (k + 18) + 1 from rfl]; unfold mastheadref04_Of.l1
    rw [if_pos (by decide), if_pos (by simp), e1.1, e1.2, w1]
    rw [show k + 18 = (k + 17) + 1 from rfl]; unfold mastheadref04_Of.l1
    rw [if_pos (by decide), if_pos (by simp), e2.1, e2.2, w2]
    rw [show k + 17 = (k + 16) + 1 from rfl]; unfold mastheadref04_Of.l1
    rw [if_pos (by decide), if_pos (by simp), e3.1, e3.2, w3]
    rw [show k + 16 = (k + 15) + 1 from rfl]; unfold mastheadref04_Of.l1
    rw [if_pos (by decide), if_pos (by simp), e4.1, e4.2, w4]
    rw [show k + 15 = (k + 14) + 1 from rfl]; unfold mastheadref04_Of.l1
    rw [if_neg (by decide), w1]
    rw [show k + 14 = (k + 13) + 1 from rfl]; unfold mastheadref04_Of.l0
    rw [if_neg (by simp)]
    simp only [List.nil_append, List.cons_append]
    rw [hr]
    rfl
  · rw [hd]
    simp only [dv]
    omega
  · intro d hd
    simp only [List.mem_cons, List.not_mem_nil, or_false] at hd
    rcases hd with rfl | rfl | rfl | rfl <;> omega
theorem drop_dv (l : List Int) (i : Nat) (h : i < l.length) : dv (l.drop i) = rd l (i : Int) + 65536 * dv (l.drop (i + 1)) := by
  rw [List.drop_eq_getElem_cons h, rd_at l i h]
  rfl
theorem drop_dv0 (l : List Int) (i : Nat) (h : l.length ≤ i) : dv (l.drop i) = 0 := by rw [List.drop_eq_nil_of_le h]; rfl
theorem rd_dg {l : List Int} (h : Dg l) (i : Nat) (hi : i < l.length) : 0 ≤ rd l (i : Int) ∧ rd l (i : Int) < 65536 := by rw [rd_at l i hi]; exact h _ (List.getElem_mem hi)
theorem add_num (acc : List Int) (i : Nat) (hi : acc.length = i) (s x y u v : Int) (hx : x + y = s + 65536 * (u + v)) : dv (acc ++ [s % 65536]) + 65536 ^ (i + 1) * (s / 65536 + u + v) = dv acc + 65536 ^ i * (x + y) := by
  rw [dv_app, hi, hx, Int.pow_succ]
  simp only [dv]
  have e : s = s % 65536 + 65536 * (s / 65536) := by omega
  conv => rhs; rw [e]
  simp only [Int.mul_add, Int.mul_zero, Int.add_zero, Int.mul_assoc]
  omega
theorem add_loop (a b : List Int) (ha : Dg a) (hb : Dg b) (hal : a.length ≤ 1000) (hbl : b.length ≤ 1000) (F : Nat) (hF : F = max a.length b.length + 1) : ∀ (m i k : Nat) (acc : List Int) (c : Int), i + m = F → acc.length = i → Dg acc → 0 ≤ c → c ≤ 1 → (m = 0 → c = 0) → 2 * m + F + 5 ≤ k →
    ∃ r, mastheadref04_Add.l0 k a b acc c i = some r ∧ dv r = dv acc + 65536 ^ i * (c + dv (a.drop i) + dv (b.drop i)) ∧ Dg r ∧ Cn r ∧ r.length ≤ F := by
  intro m
  induction m with
  | zero =>
    intro i k acc c him hacc hdg hc0 hc1 hm hk
    obtain rfl := hm rfl
    obtain ⟨k, rfl⟩ : ∃ j, k = j + 2 := ⟨k - 2, by omega⟩
    obtain ⟨r, hr, hd, hg, hcn, hl⟩ := trim_f acc (by omega) k (by omega)
    refine ⟨r, ?_, ?_, hg hdg, hcn, by omega⟩
    · rw [show k + 2 = (k + 1) + 1 from rfl]
      unfold mastheadref04_Add.l0
      rw [if_neg (by omega), if_neg (by omega)]
      unfold mastheadref04_Add.j1
      rw [if_neg (by simp), hr]
      rfl
    · rw [hd, drop_dv0 a i (by omega), drop_dv0 b i (by omega)]
      simp
  | succ m ih =>
    intro i k acc c him hacc hdg hc0 hc1 hm hk
    obtain ⟨k, rfl⟩ : ∃ j, k = j + 2 := ⟨k - 2, by omega⟩
    have hwi : wrap64 ((i : Int) + 1) = ((i + 1 : Nat) : Int) := (wrap64_id (by omega) (by omega)).trans (by simp)
    have hstep : ∀ (s : Int), 0 ≤ s → s ≤ 131071 → (m = 0 → s ≤ 1) → c + dv (a.drop i) + dv (b.drop i) = s + 65536 * (dv (a.drop (i + 1)) + dv (b.drop (i + 1))) → ∃ r, mastheadref04_Add.l0 k a b (acc ++ [Int.tmod s 65536]) (wrap64 (Int.tdiv s 65536)) (wrap64 ((i : Int) + 1)) = some r ∧ dv r = dv acc + 65536 ^ i * (c + dv (a.drop i) + dv (b.drop i)) ∧ Dg r ∧ Cn r ∧ r.length ≤ F := fun s hs0 hs1 hsm hs => by
      rw [tmod_nn hs0, tdiv_nn hs0, hwi, wrap64_id (by omega) (by omega)]
      obtain ⟨r, h1, h2, h3⟩ := ih (i + 1) k (acc ++ [s % 65536]) (s / 65536) (by omega) (by simp; omega) (hdg.snoc (by omega) (by omega)) (by omega) (by omega) (fun h => by have := hsm h; omega) (by omega)
      refine ⟨r, h1, ?_, h3⟩
      rw [h2]
      have := add_num acc i hacc s (c + dv (a.drop i)) (dv (b.drop i)) (dv (a.drop (i + 1))) (dv (b.drop (i + 1))) hs
      exact this
    rw [show k + 2 = (k + 1) + 1 from rfl]
    unfold mastheadref04_Add.l0
    by_cases h1 : i < a.length
    · have da := drop_dv a i h1
      have ra := rd_dg ha i h1
      rw [if_pos (by omega)]
      unfold mastheadref04_Add.j1
      rw [if_pos rfl, if_pos (by omega), if_pos (by omega)]
      by_cases h2 : i < b.length
      · have db := drop_dv b i h2
        have rb := rd_dg hb i h2
        rw [if_pos (by omega), if_pos (by omega), wrap64_id (n := c + _) (by omega) (by omega), wrap64_id (n := c + _ + _) (by omega) (by omega)]
        exact hstep _ (by omega) (by omega) (fun h => by omega) (by omega)
      · have db := drop_dv0 b i (by omega)
        have db' := drop_dv0 b (i + 1) (by omega)
        rw [if_neg (by omega), if_pos (by omega), wrap64_id (n := c + _) (by omega) (by omega)]
        exact hstep _ (by omega) (by omega) (fun h => by omega) (by omega)
    · have da := drop_dv0 a i (by omega)
      have da' := drop_dv0 a (i + 1) (by omega)
      rw [if_neg (by omega)]
      by_cases h2 : i < b.length
      · have db := drop_dv b i h2
        have rb := rd_dg hb i h2
        rw [if_pos (by omega)]
        unfold mastheadref04_Add.j1
        rw [if_pos rfl, if_neg (by omega), if_pos (by omega), if_pos (by omega), if_pos (by omega), wrap64_id (n := c + _) (by omega) (by omega)]
        exact hstep _ (by omega) (by omega) (fun h => by omega) (by omega)
      · have db := drop_dv0 b i (by omega)
        have db' := drop_dv0 b (i + 1) (by omega)
        rw [if_neg (by omega)]
        unfold mastheadref04_Add.j1
        by_cases hc : 0 < c
        · rw [if_pos (by simpa using hc), if_neg (by omega), if_neg (by omega), if_pos (by omega)]
          exact hstep _ (by omega) (by omega) (fun h => by omega) (by omega)
        · obtain rfl : c = 0 := by omega
          obtain ⟨r, hr, hd, hg, hcn, hl⟩ := trim_f acc (by omega) k (by omega)
          rw [if_neg (by simp), hr]
          exact ⟨r, rfl, by rw [hd, da, db]; simp, hg hdg, hcn, by omega⟩
theorem add_f (a b : List Int) (ha : Dg a) (hb : Dg b) (hal : a.length ≤ 1000) (hbl : b.length ≤ 1000) (k : Nat) (hk : 4000 ≤ k) : ∃ r, mastheadref04_Add.f k a b = some r ∧ dv r = dv a + dv b ∧ Dg r ∧ Cn r ∧ r.length ≤ max a.length b.length + 1 := by
  obtain ⟨r, h1, h2, h3⟩ := add_loop a b ha hb hal hbl _ rfl (max a.length b.length + 1) 0 k [] 0 (by omega) rfl (fun d hd => by simp at hd) (by decide) (by decide) (fun _ => rfl) (by omega)
  exact ⟨r, h1, by rw [h2]; simp [dv], h3⟩
theorem pow_up {n m : Nat} (h : (65536 : Nat) ^ n ≤ 65536 ^ m) : (65536 : Int) ^ n ≤ 65536 ^ m := by
  have h2 : ((65536 ^ n : Nat) : Int) ≤ ((65536 ^ m : Nat) : Int) := Int.ofNat_le.mpr h
  rwa [Int.natCast_pow, Int.natCast_pow] at h2
/-- A number below a power has at most so many digits, and no more. -/
theorem cn_len {l : List Int} (h : Dg l) (hc : Cn l) (n : Nat) : n < l.length ↔ 65536 ^ n ≤ dv l := by
  constructor
  · intro hn
    rcases hc with rfl | ⟨h1, h2⟩
    · simp at hn
    · obtain ⟨m, hm⟩ : ∃ m, l.length = m + 1 := ⟨l.length - 1, by omega⟩
      have e : l = l.take m ++ [l[m]] := by
        conv => lhs; rw [← List.take_append_drop m l]
        rw [List.drop_eq_getElem_cons (by omega), List.drop_eq_nil_of_le (by omega)]
      have hlast : l[m] ≠ 0 := by
        have : l.length - 1 = m := by omega
        simpa only [this] using h2
      have h3 := h l[m] (List.getElem_mem _)
      have h4 := dv_nonneg _ (h.take m)
      have h5 : (65536 : Int) ^ n ≤ 65536 ^ m := by
        have : (65536 : Nat) ^ n ≤ 65536 ^ m := Nat.pow_le_pow_right (by decide) (by omega)
        exact pow_up this
      rw [e, dv_app]
      have h6 : (65536 : Int) ^ m * 1 ≤ 65536 ^ m * dv [l[m]] := Int.mul_le_mul_of_nonneg_left (by simp only [dv]; omega) (Int.pow_nonneg (by decide))
      rw [List.length_take, show min m l.length = m by omega]
      omega
  · intro hn
    rcases Nat.lt_or_ge n l.length with h1 | h1
    · exact h1
    · have h2 := dv_lt l h
      have h5 : (65536 : Int) ^ l.length ≤ 65536 ^ n := by
        have : (65536 : Nat) ^ l.length ≤ 65536 ^ n := Nat.pow_le_pow_right (by decide) h1
        exact pow_up this
      omega
end Go.Proofs.Ytpjkhecefppamaa.Hand
