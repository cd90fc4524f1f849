/- Blocks that hold arrays: whole arrays stored and loaded, bytes copied into them. -/
import Derived.Test.YtfcmdhimlfoofaaProg
import Derived.Below
import Derived.Deep.Draws
import Derived.Deep.AppendLies
import Derived.Maps.AppendAt
import Derived.OwnWalk
import Derived.Laws.BytesArg
import Derived.Laws.MakeOwn
import Derived.Laws.OwnMore
import Derived.Deep.OwnRows
import Derived.Tactics
import Derived.Lib.ConvBytes
import Derived.Laws.Slices
import Derived.WalkKit
import Derived.KernelRfl
import Derived.RowKit3
import Derived.Deep.LoopGhost
import Derived.Deep.QuietTactic
import Derived.BigQuiet
import Derived.WideLaws
import Derived.Deep.DeepCutAuto
import Derived.Deep.CutBlock
import Derived.Deep.RegionHeld3
import Derived.Laws.Rows
import Derived.Lib.AppendStr
import Derived.ArgAppend
import Derived.Laws.IdiomCopy
import Derived.OrdersHeld
import Derived.Laws.BitsLemmas
import Derived.RowKit
import Derived.StillTailTactics
import Derived.Test.YtfcmdhimlfoofaaWWords
import Derived.Test.YtfcmdhimlfoofaaWLast
import Derived.Test.YtfcmdhimlfoofaaWMore
import Derived.Deep.MidRow
import Derived.Laws.CopyOwn
namespace Go.Proofs.Ytfcmdhimlfoofaa.Hand
open Go Go.RowKit Go.Proofs.YtfcmdhimlfoofaaW.PrintWords Go.Proofs.YtfcmdhimlfoofaaW.PrintLast Go.Proofs.YtfcmdhimlfoofaaW.PrintMore
set_option linter.unusedVariables false
set_option linter.unusedSimpArgs false
theorem heap_setCells_at (b : Nat) (t : TypeId) : ∀ (vs : List Value) (o : Nat) (w : World) (pre mid post : List Value), w.heap[b]? = some (.cells (pre ++ (mid ++ post)).toArray t (0, 0)) → pre.length = o → mid.length = vs.length →
    (w.setCells b o vs).heap[b]? = some (.cells (pre ++ (vs ++ post)).toArray t (0, 0))
  | [], o, w, pre, mid, post, hb, ho, hm => by
    obtain rfl : mid = [] := List.eq_nil_of_length_eq_zero hm
    exact hb
  | v :: r, o, w, pre, mid, post, hb, ho, hm => by
    obtain ⟨m, mid, rfl⟩ : ∃ m r', mid = m :: r' := by
      cases mid with
      | nil => simp at hm
      | cons m r' => exact ⟨m, r', rfl⟩
    have h1 := blk_set hb o v
    have e : (pre ++ (m :: mid ++ post)).toArray.setIfInBounds o v = ((pre ++ [v]) ++ (mid ++ post)).toArray := by
      subst ho
      simp
    rw [e] at h1
    have := heap_setCells_at b t r (o + 1) (w.setCell ⟨b, o, none⟩ v) (pre ++ [v]) mid post h1 (by simp; omega) (by simpa using hm)
    simpa [World.setCells] using this
theorem heap_setCells_ne (b : Nat) : ∀ (vs : List Value) (o : Nat) (w : World) (k : Nat), k ≠ b → (w.setCells b o vs).heap[k]? = w.heap[k]?
  | [], _, _, _, _ => rfl
  | v :: r, o, w, k, hk => by
    show ((w.setCell ⟨b, o, none⟩ v).setCells b (o + 1) r).heap[k]? = _
    rw [heap_setCells_ne b r (o + 1) _ k hk, Below.heap_setCell w ⟨b, o, none⟩ v k hk]
theorem size_setCells' (b : Nat) : ∀ (vs : List Value) (o : Nat) (w : World), (w.setCells b o vs).heap.size = w.heap.size
  | [], _, _ => rfl
  | v :: r, o, w => by
    show ((w.setCell ⟨b, o, none⟩ v).setCells b (o + 1) r).heap.size = _
    rw [size_setCells' b r (o + 1), World.size_setCell]
theorem below_setCells' {B b : Nat} {a : World} (hb : B ≤ b) : ∀ (vs : List Value) (o : Nat) (w : World), Below B a w → Below B a (w.setCells b o vs)
  | [], _, _, h => h
  | v :: r, o, w, h => below_setCells' hb r (o + 1) _ (h.setCell (p := ⟨b, o, none⟩) hb v)
/-- A whole block is set anew. -/
theorem heap_setCells_all {b : Nat} {t : TypeId} {w : World} {old vs : List Value} (hb : w.heap[b]? = some (.cells old.toArray t (0, 0))) (h : old.length = vs.length) : (w.setCells b 0 vs).heap[b]? = some (.cells vs.toArray t (0, 0)) := by
  have := heap_setCells_at b t vs 0 w [] old [] (by simpa using hb) rfl h
  simpa using this
theorem there_of_block {b : Nat} {t : TypeId} {w : World} {old : List Value} (hb : w.heap[b]? = some (.cells old.toArray t (0, 0))) : w.there b 0 old.length := by
  intro j hj
  constructor
  · rw [blk_cell hb]
    simp [hj]
  · exact blk_frozen hb _
theorem nums_one (k : IntKind) (l : List Int) : ∀ v ∈ nums k l, v.oneCell' = true := by
  intro v hv
  simp only [nums, List.mem_map] at hv
  obtain ⟨x, _, rfl⟩ := hv
  rfl
/-- The cells of a row that is read. -/
theorem C_cells {w : World} {A : Option Addr} {k : IntKind} {ys : List Int} (h : Kd.C (Kd.int k) w A ys.length ys) (hp : 0 < ys.length) : ∃ ad, A = some ad ∧ ∀ j v, (nums k ys)[j]? = some v → w.cell? (ad.add j) = some v := by
  obtain ⟨_, _, h3⟩ := h
  obtain ⟨ad, e, hc⟩ := h3 hp
  refine ⟨ad, e, fun j v hj => ?_⟩
  have hjl : j < ys.length := by
    have := (List.getElem?_eq_some_iff.1 hj).1
    simpa [nums] using this
  obtain ⟨c, hl, hK, hcell⟩ := hc j ys[j] (List.getElem?_eq_getElem hjl)
  have hcp : c = [.int k ys[j]] := hK
  subst hcp
  have h4 := hcell 0 (.int k ys[j]) rfl
  have hv : v = .int k ys[j] := by
    simp only [nums, List.getElem?_map, List.getElem?_eq_getElem hjl, Option.map_some] at hj
    exact (Option.some.inj hj).symm
  rw [hv, ← h4]
  congr 2
  show j = j * 1 + 0
  omega
/-- An array in a block of its own, or the first part of a block, reads as a row. -/
theorem C_of_block {w : World} {b o : Nat} {t : TypeId} {fr : Nat × Nat} {k : IntKind} {pre post : List Value} {ys : List Int} (hb : w.heap[b]? = some (.cells (pre ++ (nums k ys ++ post)).toArray t fr)) (ho : pre.length = o) (hl : ys.length ≤ 9223372036854775807) : Kd.C (Kd.int k) w (some ⟨b, o, none⟩) ys.length ys := by
  refine ⟨rfl, hl, fun _ => ⟨⟨b, o, none⟩, rfl, fun j p hj => ⟨[.int k p], rfl, rfl, fun i u hu => ?_⟩⟩⟩
  have hjl := (List.getElem?_eq_some_iff.1 hj).1
  cases i with
  | succ i => simp at hu
  | zero =>
    have : u = .int k p := by simpa using hu.symm
    subst this
    have hadd : (⟨b, o, none⟩ : Addr).add (j * 1 + 0) = ⟨b, o + j, none⟩ := by
      unfold Addr.add
      split <;> simp_all
    show w.cell? ((⟨b, o, none⟩ : Addr).add (j * 1 + 0)) = _
    rw [hadd]
    simp only [World.cell?, hb]
    subst ho
    have hj2 : (nums k ys)[j]? = some (.int k p) := by simp only [nums, List.getElem?_map, hj, Option.map_some]
    simp only [List.getElem?_toArray]
    rw [List.getElem?_append_right (by omega), Nat.add_sub_cancel_left, List.getElem?_append_left (by simp [nums]; omega)]
    exact hj2
end Go.Proofs.Ytfcmdhimlfoofaa.Hand
