/- Lists of hashes, level by level: what the program and the document compute, no program in sight. -/
import Derived.Test.YtlmcdkjobdcflaaDoorProg
import Derived.Below
import Derived.Deep.Draws
import Derived.Deep.AppendLies
import Derived.Maps.AppendAt
import Derived.OwnWalk
import Derived.Laws.BytesArg
import Derived.Laws.MakeOwn
import Derived.Laws.OwnMore
import Derived.Deep.OwnRows
import Derived.Tactics
import Derived.Lib.ConvBytes
import Derived.Laws.Slices
import Derived.WalkKit
import Derived.KernelRfl
import Derived.RowKit3
import Derived.Deep.LoopGhost
import Derived.Deep.QuietTactic
import Derived.BigQuiet
import Derived.WideLaws
import Derived.Deep.DeepCutAuto
import Derived.Deep.CutBlock
import Derived.Deep.RegionHeld3
import Derived.Laws.Rows
import Derived.Lib.AppendStr
import Derived.ArgAppend
import Derived.Laws.IdiomCopy
import Derived.OrdersHeld
import Derived.Laws.BitsLemmas
import Derived.RowKit
import Derived.StillTailTactics
import Derived.Test.YtlmcdkjobdcflaaDoorWWords
import Derived.Test.YtlmcdkjobdcflaaDoorWLast
import Derived.Test.YtlmcdkjobdcflaaDoorWMore
import Derived.Lib.Hide
import Derived.Test.YtlmcdkjobdcflaaDoorShaA
namespace Go.Proofs.YtlmcdkjobdcflaaDoor.Hand
open Go Go.RowKit Go.Proofs.YtlmcdkjobdcflaaDoor.Plain
set_option linter.unusedVariables false
set_option linter.unusedSimpArgs false
def z32h : List Int := List.replicate 32 0
/-- A hash of a list, by its place. -/
def rdH (xs : List (List Int)) (i : Nat) : List Int := xs.getD i z32h
theorem rdH_eq {xs : List (List Int)} {i : Nat} (h : i < xs.length) : rdH xs i = xs[i] := by
  unfold rdH
  rw [List.getD_eq_getElem?_getD, List.getElem?_eq_getElem h]
  rfl
/-- The level above. -/
def aboveAt (xs : List (List Int)) (k : Nat) : List Int := twiceP (rdH xs (2 * k) ++ rdH xs (min (2 * k + 1) (xs.length - 1)))
def aboveP (xs : List (List Int)) : List (List Int) := (List.range ((xs.length + 1) / 2)).map (aboveAt xs)
theorem aboveP_len (xs : List (List Int)) : (aboveP xs).length = (xs.length + 1) / 2 := by simp [aboveP]
theorem rdH_above {xs : List (List Int)} {k : Nat} (h : k < (xs.length + 1) / 2) : rdH (aboveP xs) k = aboveAt xs k := by
  rw [rdH_eq (by rw [aboveP_len]; exact h)]
  simp [aboveP]
theorem above_take {xs : List (List Int)} {k : Nat} (h : k < (xs.length + 1) / 2) : (aboveP xs).take (k + 1) = (aboveP xs).take k ++ [aboveAt xs k] := by
  rw [List.take_succ_eq_append_getElem (by rw [aboveP_len]; exact h)]
  simp [aboveP]
theorem twiceP_len (bs : List Int) : (twiceP bs).length = 32 := sumP_len _
theorem twiceP_bytes (bs : List Int) : ∀ x ∈ twiceP bs, 0 ≤ x ∧ x < 256 := sumP_bytes _
/-- Hashes. -/
def Hs (xs : List (List Int)) : Prop := ∀ p ∈ xs, p.length = 32 ∧ ∀ x ∈ p, 0 ≤ x ∧ x < 256
theorem Hs.at_ {xs : List (List Int)} (h : Hs xs) {i : Nat} (hi : i < xs.length) : (rdH xs i).length = 32 ∧ ∀ x ∈ rdH xs i, 0 ≤ x ∧ x < 256 := by
  rw [rdH_eq hi]
  exact h _ (List.getElem_mem hi)
theorem z32h_hash : z32h.length = 32 ∧ ∀ x ∈ z32h, 0 ≤ x ∧ x < 256 := by
  refine ⟨by simp [z32h], fun x hx => ?_⟩
  have := List.eq_of_mem_replicate hx
  omega
theorem Hs.any {xs : List (List Int)} (h : Hs xs) (i : Nat) : (rdH xs i).length = 32 ∧ ∀ x ∈ rdH xs i, 0 ≤ x ∧ x < 256 := by
  by_cases hi : i < xs.length
  · exact h.at_ hi
  · unfold rdH
    rw [List.getD_eq_getElem?_getD, List.getElem?_eq_none (by omega)]
    exact z32h_hash
theorem aboveP_Hs (xs : List (List Int)) : Hs (aboveP xs) := by
  intro p hp
  simp only [aboveP, List.mem_map] at hp
  obtain ⟨k, _, rfl⟩ := hp
  exact ⟨twiceP_len _, twiceP_bytes _⟩
/-- The levels. -/
def lev (xs : List (List Int)) : Nat → List (List Int)
  | 0 => xs
  | i + 1 => aboveP (lev xs i)
theorem lev_Hs {xs : List (List Int)} (h : Hs xs) : ∀ i, Hs (lev xs i)
  | 0 => h
  | i + 1 => aboveP_Hs _
theorem lev_above (xs : List (List Int)) : ∀ i, lev (aboveP xs) i = lev xs (i + 1)
  | 0 => rfl
  | i + 1 => by rw [lev, lev_above xs i]; rfl
/-- How many there are at a level. -/
def wideP (n : Nat) : Nat → Nat
  | 0 => n
  | i + 1 => (wideP n i + 1) / 2
theorem lev_len (xs : List (List Int)) : ∀ i, (lev xs i).length = wideP xs.length i
  | 0 => rfl
  | i + 1 => by rw [lev, aboveP_len, lev_len xs i]; rfl
theorem wideP_le (n : Nat) : ∀ i, wideP n i ≤ n
  | 0 => Nat.le_refl _
  | i + 1 => by
    have := wideP_le n i
    unfold wideP
    by_cases h : wideP n i = 0
    · omega
    · omega
theorem wideP_pos {n : Nat} (h : 1 ≤ n) : ∀ i, 1 ≤ wideP n i
  | 0 => h
  | i + 1 => by have := wideP_pos h i; unfold wideP; omega
/-- (n + 2^i - 1) / 2^i. -/
theorem wideP_eq (n : Nat) : ∀ i, wideP n i = (n + 2 ^ i - 1) / 2 ^ i
  | 0 => by simp [wideP]
  | i + 1 => by
    rw [wideP, wideP_eq n i, Nat.pow_succ]
    have hp : 0 < 2 ^ i := Nat.pow_pos (by decide)
    obtain ⟨p, hpp⟩ : ∃ p, 2 ^ i = p := ⟨_, rfl⟩
    rw [hpp] at hp ⊢
    rw [show (n + p - 1) / p + 1 = (n + p - 1 + p) / p by rw [Nat.add_div_right _ hp], Nat.div_div_eq_div_mul]
    congr 1
    omega
/-- The least d for which 2^d is n at least. -/
def IsDepth (n d : Nat) : Prop := n ≤ 2 ^ d ∧ ∀ i, i < d → 2 ^ i < n
theorem IsDepth.unique {n d e : Nat} (h : IsDepth n d) (k : IsDepth n e) : d = e := by
  rcases Nat.lt_trichotomy d e with hl | hl | hl
  · have := k.2 d hl
    have := h.1
    omega
  · exact hl
  · have := h.2 e hl
    have := k.1
    omega
theorem depth_ex (n : Nat) : ∃ d, IsDepth n d := by
  have h : ∃ d, n ≤ 2 ^ d := ⟨n, Nat.le_of_lt Nat.lt_two_pow_self⟩
  obtain ⟨d, hd⟩ := h
  induction d with
  | zero => exact ⟨0, hd, fun i hi => absurd hi (by omega)⟩
  | succ d ih =>
    by_cases h : n ≤ 2 ^ d
    · exact ih h
    · refine ⟨d + 1, hd, fun i hi => ?_⟩
      have : 2 ^ i ≤ 2 ^ d := Nat.pow_le_pow_right (by decide) (by omega)
      omega
def depthF : Nat → Nat → Nat → Nat
  | 0, d, _ => d
  | k + 1, d, n => if n ≤ 2 ^ d then d else depthF k (d + 1) n
def depthP (n : Nat) : Nat := depthF n 0 n
theorem depthF_is : ∀ k d n, n ≤ 2 ^ (d + k) → (∀ i, i < d → 2 ^ i < n) → IsDepth n (depthF k d n)
  | 0, d, n, h, h2 => ⟨h, h2⟩
  | k + 1, d, n, h, h2 => by
    unfold depthF
    split
    · exact ⟨by assumption, h2⟩
    · rename_i hn
      refine depthF_is k (d + 1) n (by rw [Nat.add_right_comm]; exact h) (fun i hi => ?_)
      by_cases e : i = d
      · subst e
        omega
      · exact h2 i (by omega)
theorem depthP_is (n : Nat) : IsDepth n (depthP n) := depthF_is n 0 n (by rw [Nat.zero_add]; exact Nat.le_of_lt Nat.lt_two_pow_self) (fun i hi => absurd hi (by omega))
theorem depth_wide {n d : Nat} (h : IsDepth n d) : wideP n d ≤ 1 ∧ ∀ i, i < d → 1 < wideP n i := by
  constructor
  · rw [wideP_eq]
    have hp : 0 < 2 ^ d := Nat.pow_pos (by decide)
    have := h.1
    apply Nat.le_of_lt_succ
    rw [Nat.div_lt_iff_lt_mul hp]
    omega
  · intro i hi
    rw [wideP_eq]
    have hp : 0 < 2 ^ i := Nat.pow_pos (by decide)
    have := h.2 i hi
    have h2 : 2 ≤ (n + 2 ^ i - 1) / 2 ^ i := by
      rw [Nat.le_div_iff_mul_le hp]
      omega
    omega
theorem depth_of_wide {n d : Nat} (h : wideP n d ≤ 1) (k : ∀ i, i < d → 1 < wideP n i) : IsDepth n d := by
  obtain ⟨e, he⟩ := depth_ex n
  obtain ⟨h1, h2⟩ := depth_wide he
  rcases Nat.lt_trichotomy d e with hl | hl | hl
  · have := h2 d hl
    omega
  · exact hl ▸ he
  · have := k e hl
    omega
theorem depth_le {n d : Nat} (h : IsDepth n d) {m : Nat} (hm : n ≤ 2 ^ m) : d ≤ m := by
  by_cases hl : d ≤ m
  · exact hl
  · have := h.2 m (by omega)
    omega
/-- A list's root: the hash of the last level, if that has one. -/
def rootAt (xs : List (List Int)) : Nat → List Int
  | 0 => z32h
  | i + 1 => if (lev xs i).length = 1 then rdH (lev xs i) 0 else rootAt xs i
theorem rootAt_depth {xs : List (List Int)} {d : Nat} (h : IsDepth xs.length d) (h1 : 1 ≤ xs.length) : rootAt xs (d + 1) = rdH (lev xs d) 0 := by
  rw [rootAt, if_pos]
  have h2 := (depth_wide h).1
  have h3 := wideP_pos h1 d
  rw [lev_len]
  omega
theorem rootAt_none {xs : List (List Int)} (h : xs.length = 0) : ∀ i, rootAt xs i = z32h
  | 0 => rfl
  | i + 1 => by
    have : wideP xs.length i ≤ xs.length := wideP_le _ _
    rw [rootAt, if_neg (by rw [lev_len]; omega), rootAt_none h i]
/-- The root, at a list's own depth. -/
def rootP (xs : List (List Int)) : List Int := rootAt xs (depthP xs.length + 1)
theorem rootP_of {xs : List (List Int)} {d : Nat} (h : IsDepth xs.length d) : rootP xs = rootAt xs (d + 1) := by
  unfold rootP
  rw [IsDepth.unique (depthP_is xs.length) h]
theorem rootAt_hash {xs : List (List Int)} (h : Hs xs) : ∀ i, (rootAt xs i).length = 32 ∧ ∀ x ∈ rootAt xs i, 0 ≤ x ∧ x < 256
  | 0 => z32h_hash
  | i + 1 => by
    rw [rootAt]
    split
    · exact (lev_Hs h i).any 0
    · exact rootAt_hash h i
theorem rootP_hash {xs : List (List Int)} (h : Hs xs) : (rootP xs).length = 32 ∧ ∀ x ∈ rootP xs, 0 ≤ x ∧ x < 256 := rootAt_hash h _
theorem rootP_above {xs : List (List Int)} (h : 2 ≤ xs.length) : rootP (aboveP xs) = rootP xs := by
  obtain ⟨d, hd⟩ := depth_ex xs.length
  obtain ⟨hw1, hw2⟩ := depth_wide hd
  obtain ⟨e, rfl⟩ : ∃ e, d = e + 1 := by
    cases d with
    | zero => exact absurd hw1 (by simp only [wideP]; omega)
    | succ e => exact ⟨e, rfl⟩
  have hs : ∀ i, wideP (aboveP xs).length i = wideP xs.length (i + 1) := by
    intro i
    rw [← lev_len, lev_above, lev_len]
  have hd2 : IsDepth (aboveP xs).length e := depth_of_wide (by rw [hs]; exact hw1) (fun i hi => by rw [hs]; exact hw2 _ (by omega))
  rw [rootP_of hd, rootP_of hd2, rootAt_depth hd (by omega), rootAt_depth hd2 (by rw [aboveP_len]; omega), lev_above]
/-- A list's node: of a level, by its place. -/
def nodeP (xs : List (List Int)) : Nat → Nat → List Int
  | 0, i => rdH xs i
  | l + 1, i => if 2 * i + 1 ≥ wideP xs.length l then twiceP (nodeP xs l (2 * i) ++ nodeP xs l (2 * i)) else twiceP (nodeP xs l (2 * i) ++ nodeP xs l (2 * i + 1))
theorem nodeP_lev (xs : List (List Int)) : ∀ l i, i < wideP xs.length l → nodeP xs l i = rdH (lev xs l) i
  | 0, i, _ => rfl
  | l + 1, i, h => by
    have hi : i < (wideP xs.length l + 1) / 2 := h
    rw [nodeP, lev, rdH_above (by rw [lev_len]; exact hi), aboveAt, lev_len]
    rw [nodeP_lev xs l (2 * i) (by omega)]
    by_cases hc : 2 * i + 1 ≥ wideP xs.length l
    · rw [if_pos hc, show min (2 * i + 1) (wideP xs.length l - 1) = 2 * i by omega]
    · rw [if_neg hc, nodeP_lev xs l (2 * i + 1) (by omega), show min (2 * i + 1) (wideP xs.length l - 1) = 2 * i + 1 by omega]
/-- Has a level a pair of the same? -/
def pairedP (xs : List (List Int)) : Bool := (List.range (xs.length / 2)).any fun k => rdH xs (2 * k + 1) == rdH xs (2 * k)
/-- Has one of the first levels? -/
def doubAt (xs : List (List Int)) : Nat → Bool
  | 0 => false
  | i + 1 => doubAt xs i || pairedP (lev xs i)
def doubP (xs : List (List Int)) : Bool := doubAt xs (depthP xs.length + 1)
theorem doubP_of {xs : List (List Int)} {d : Nat} (h : IsDepth xs.length d) : doubP xs = doubAt xs (d + 1) := by
  unfold doubP
  rw [IsDepth.unique (depthP_is xs.length) h]
theorem paired_one {xs : List (List Int)} (h : xs.length ≤ 1) : pairedP xs = false := by
  unfold pairedP
  rw [show xs.length / 2 = 0 by omega]
  rfl
theorem doubP_depth {xs : List (List Int)} {d : Nat} (h : IsDepth xs.length d) : doubP xs = doubAt xs d := by
  rw [doubP_of h, doubAt, paired_one (by rw [lev_len]; exact (depth_wide h).1), Bool.or_false]
theorem doubAt_mono {xs : List (List Int)} {i : Nat} (h : doubAt xs i = true) : ∀ j, i ≤ j → doubAt xs j = true := by
  intro j hj
  induction j with
  | zero =>
    obtain rfl : i = 0 := by omega
    exact h
  | succ j ih =>
    by_cases e : i = j + 1
    · exact e ▸ h
    · rw [doubAt, ih (by omega)]
      rfl
end Go.Proofs.YtlmcdkjobdcflaaDoor.Hand
