/- Rows of hashes: read, and laid in a block. -/
import Derived.Test.YtlmcdkjobdcflaaDoorProg
import Derived.Below
import Derived.Deep.Draws
import Derived.Deep.AppendLies
import Derived.Maps.AppendAt
import Derived.OwnWalk
import Derived.Laws.BytesArg
import Derived.Laws.MakeOwn
import Derived.Laws.OwnMore
import Derived.Deep.OwnRows
import Derived.Tactics
import Derived.Lib.ConvBytes
import Derived.Laws.Slices
import Derived.WalkKit
import Derived.KernelRfl
import Derived.RowKit3
import Derived.Deep.LoopGhost
import Derived.Deep.QuietTactic
import Derived.BigQuiet
import Derived.WideLaws
import Derived.Deep.DeepCutAuto
import Derived.Deep.CutBlock
import Derived.Deep.RegionHeld3
import Derived.Laws.Rows
import Derived.Lib.AppendStr
import Derived.ArgAppend
import Derived.Laws.IdiomCopy
import Derived.OrdersHeld
import Derived.Laws.BitsLemmas
import Derived.RowKit
import Derived.StillTailTactics
import Derived.Test.YtlmcdkjobdcflaaDoorWWords
import Derived.Test.YtlmcdkjobdcflaaDoorWLast
import Derived.Test.YtlmcdkjobdcflaaDoorWMore
import Derived.Lib.Hide
import Derived.Deep.MidRow
import Derived.Test.YtlmcdkjobdcflaaDoorWArr
import Derived.Test.YtlmcdkjobdcflaaDoorArrays
import Derived.Test.YtlmcdkjobdcflaaDoorMerkPlain
namespace Go.Proofs.YtlmcdkjobdcflaaDoor.Hand
open Go Go.RowKit Go.Proofs.YtlmcdkjobdcflaaDoor.Plain Go.Proofs.YtlmcdkjobdcflaaDoorW.PrintWords Go.Proofs.YtlmcdkjobdcflaaDoorW.PrintLast Go.Proofs.YtlmcdkjobdcflaaDoorW.PrintMore
set_option linter.unusedVariables false
set_option linter.unusedSimpArgs false
/-- A hash, as an element of a row. -/
abbrev kH : Kd (List Int) := Kd.arr 32 (Kd.int .u8) (by decide)
theorem kH_sz : kH.sz = 32 := rfl
theorem kH_M {w : World} {base : Nat} {ok : Nat → Prop} {p : List Int} (h : p.length = 32) : kH.M w base ok p (nums .u8 p) := Kd.arr_of_cells h
theorem kH_K {w : World} {p : List Int} {cs : List Value} (h : kH.K w p cs) : p.length = 32 ∧ cs = nums .u8 p := Kd.arr_cells h
theorem kH_of {w : World} {p : List Int} (h : p.length = 32) : kH.K w p (nums .u8 p) := kH.K_of_M (kH_M (base := 0) (ok := fun _ => True) h)
theorem addr_of_cell {w : World} {ad : Addr} {v : Value} (h : w.cell? ad = some v) : ad = ⟨ad.block, ad.off, none⟩ := by
  obtain ⟨b, o, s⟩ := ad
  cases s with
  | none => rfl
  | some s =>
    unfold World.cell? at h
    split at h
    · simp at h
    · cases h
theorem nums_len (k : IntKind) (l : List Int) : (nums k l).length = l.length := by simp [nums]
/-- The hashes of a row that is read. -/
theorem C_hash {w : World} {A : Option Addr} {xs : List (List Int)} (h : Kd.C kH w A xs.length xs) (h0 : 0 < xs.length) : ∃ b o, A = some ⟨b, o, none⟩ ∧ b < w.heap.size ∧ ∀ i, i < xs.length → w.rangeAt b (o + i * 32) (nums .u8 (rdH xs i)) ∧ (rdH xs i).length = 32 := by
  obtain ⟨_, _, h3⟩ := h
  obtain ⟨ad, e, hc⟩ := h3 h0
  have hall : ∀ i, i < xs.length → ∀ (j : Nat) v, (nums .u8 (rdH xs i))[j]? = some v → w.cell? (ad.add (i * 32 + j)) = some v := by
    intro i hi j v hj
    obtain ⟨c, hl, hK, hcell⟩ := hc i xs[i] (List.getElem?_eq_getElem hi)
    obtain ⟨h32, rfl⟩ := kH_K hK
    rw [rdH_eq hi] at hj
    exact hcell j v hj
  have hlen : ∀ i, i < xs.length → (rdH xs i).length = 32 := by
    intro i hi
    obtain ⟨c, hl, hK, hcell⟩ := hc i xs[i] (List.getElem?_eq_getElem hi)
    rw [rdH_eq hi]
    exact (kH_K hK).1
  have hz : w.cell? ad = some (.int .u8 (rd (rdH xs 0) 0)) := by
    have := hall 0 h0 0 (.int .u8 (rd (rdH xs 0) 0)) (by
      have h32 := hlen 0 h0
      simp [nums, rd, List.getElem?_eq_getElem (show 0 < (rdH xs 0).length by omega)])
    simpa [Addr.add] using this
  have had := addr_of_cell hz
  refine ⟨ad.block, ad.off, by rw [e]; exact congrArg some had, block_lt_of_cell hz, fun i hi => ⟨fun j v hj => ?_, hlen i hi⟩⟩
  have h2 := hall i hi j v hj
  rw [had, Addr.add_mid] at h2
  rw [Nat.add_assoc]
  exact h2
/-- A row of hashes out of its cells. -/
theorem C_of_ranges {w : World} {b o : Nat} {xs : List (List Int)} (h : ∀ i, i < xs.length → w.rangeAt b (o + i * 32) (nums .u8 (rdH xs i))) (h32 : ∀ p ∈ xs, p.length = 32) (hm : xs.length ≤ 9223372036854775807) : Kd.C kH w (some ⟨b, o, none⟩) xs.length xs := by
  refine ⟨rfl, hm, fun _ => ⟨⟨b, o, none⟩, rfl, fun i p hi => ?_⟩⟩
  obtain ⟨hl, rfl⟩ := List.getElem?_eq_some_iff.1 hi
  refine ⟨nums .u8 xs[i], by rw [nums_len]; exact h32 _ (List.getElem_mem hl), kH_of (h32 _ (List.getElem_mem hl)), fun j v hj => ?_⟩
  rw [Addr.add_mid]
  have := h i hl j v (by rw [rdH_eq hl]; exact hj)
  rw [Nat.add_assoc] at this
  exact this
/-- A block of hashes. -/
def hcs (xs : List (List Int)) : List Value := (xs.map (nums .u8)).flatten
theorem hcs_len {xs : List (List Int)} (h : ∀ p ∈ xs, p.length = 32) : (hcs xs).length = xs.length * 32 := by
  induction xs with
  | nil => rfl
  | cons p xs ih =>
    have h1 := h p (by simp)
    have h2 := ih (fun q hq => h q (by simp [hq]))
    simp only [hcs, List.map_cons, List.flatten_cons, List.length_append, nums_len, List.length_cons] at *
    omega
theorem hcs_get {xs : List (List Int)} (h : ∀ p ∈ xs, p.length = 32) : ∀ (i j : Nat) v, i < xs.length → (nums .u8 (rdH xs i))[j]? = some v → (hcs xs)[i * 32 + j]? = some v := by
  induction xs with
  | nil => intro i j v hi; simp at hi
  | cons p xs ih =>
    intro i j v hi hj
    have h1 := h p (by simp)
    have hlt := (List.getElem?_eq_some_iff.1 hj).1
    have e : hcs (p :: xs) = nums .u8 p ++ hcs xs := rfl
    rw [e]
    cases i with
    | zero =>
      have hj2 : (nums .u8 p)[j]? = some v := hj
      rw [Nat.zero_mul, Nat.zero_add, List.getElem?_append_left (List.getElem?_eq_some_iff.1 hj2).1]
      exact hj2
    | succ i =>
      have hj2 : (nums .u8 (rdH xs i))[j]? = some v := by simpa [rdH] using hj
      rw [List.getElem?_append_right (by rw [nums_len, h1]; omega), nums_len, h1, show (i + 1) * 32 + j - 32 = i * 32 + j by omega]
      exact ih (fun q hq => h q (by simp [hq])) i j v (by simpa using hi) hj2
theorem C_of_hcs {w : World} {b : Nat} {t : TypeId} {fr : Nat × Nat} {xs : List (List Int)} (hb : w.heap[b]? = some (.cells (hcs xs).toArray t fr)) (h32 : ∀ p ∈ xs, p.length = 32) (hm : xs.length ≤ 9223372036854775807) : Kd.C kH w (some ⟨b, 0, none⟩) xs.length xs := by
  refine C_of_ranges (fun i hi j v hj => ?_) h32 hm
  rw [cell_of_row w b _ _ t fr hb, List.getElem?_toArray, Nat.zero_add]
  exact hcs_get h32 i j v hi hj
end Go.Proofs.YtlmcdkjobdcflaaDoor.Hand
