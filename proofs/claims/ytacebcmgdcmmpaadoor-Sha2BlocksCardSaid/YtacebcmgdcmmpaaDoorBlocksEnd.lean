/- The law Sha2Blocks, for the row. -/
import Derived.Test.YtacebcmgdcmmpaaDoorProg
import Derived.Below
import Derived.Deep.Draws
import Derived.Deep.AppendLies
import Derived.Maps.AppendAt
import Derived.OwnWalk
import Derived.Laws.BytesArg
import Derived.Laws.MakeOwn
import Derived.Laws.OwnMore
import Derived.Deep.OwnRows
import Derived.Tactics
import Derived.Lib.ConvBytes
import Derived.Laws.Slices
import Derived.WalkKit
import Derived.KernelRfl
import Derived.RowKit3
import Derived.Deep.LoopGhost
import Derived.Deep.QuietTactic
import Derived.BigQuiet
import Derived.WideLaws
import Derived.Deep.DeepCutAuto
import Derived.Deep.CutBlock
import Derived.Deep.RegionHeld3
import Derived.Laws.Rows
import Derived.Lib.AppendStr
import Derived.ArgAppend
import Derived.Laws.IdiomCopy
import Derived.OrdersHeld
import Derived.Laws.BitsLemmas
import Derived.RowKit
import Derived.StillTailTactics
import Derived.Test.YtacebcmgdcmmpaaDoorWWords
import Derived.Test.YtacebcmgdcmmpaaDoorWLast
import Derived.Test.YtacebcmgdcmmpaaDoorWMore
import Derived.Test.YtacebcmgdcmmpaaDoorOpens2
import Derived.Test.YtacebcmgdcmmpaaDoorBlocksLaw
namespace Go.Proofs.YtacebcmgdcmmpaaDoor.Hand
open Go Go.RowKit Go.Proofs.YtacebcmgdcmmpaaDoor.Plain Go.Proofs.YtacebcmgdcmmpaaDoorW.PrintWords Go.Proofs.YtacebcmgdcmmpaaDoorW.PrintLast Go.Proofs.YtacebcmgdcmmpaaDoorW.PrintMore
theorem arr_nums {w : World} {k : IntKind} {n : Nat} {hs : 0 < (Kd.int k).sz} {xs : List Int} {cs : Array Value} (h : (Kd.arr n (Kd.int k) hs).K w xs cs.toList) : xs.length = n ∧ cs = (nums k xs).toArray := by
  obtain ⟨h1, h2⟩ := h
  refine ⟨h1, ?_⟩
  have hl : cs.toList.length = xs.length := by have h3 : cs.toList.length = xs.length * 1 := h2.1; omega
  have : cs.toList = nums k xs := by
    apply List.ext_getElem?
    intro j
    by_cases hj : j < xs.length
    · have h3 := h2.2 j xs[j] (List.getElem?_eq_getElem hj)
      have h4 : (cs.toList.drop (j * 1)).take 1 = [.int k xs[j]] := h3
      have h5 : ((cs.toList.drop (j * 1)).take 1)[0]? = some (.int k xs[j]) := by rw [h4]; rfl
      rw [List.getElem?_take, if_pos (by decide), List.getElem?_drop, Nat.mul_one, Nat.add_zero] at h5
      rw [h5, nums, List.getElem?_map, List.getElem?_eq_getElem hj]
      rfl
    · rw [List.getElem?_eq_none (by omega), List.getElem?_eq_none (by simp [nums]; omega)]
  rw [← this]
theorem blocks_end (xs bs : List Int) (w : World) (hK : KT w) (h8 : xs.length = 8) (hx : ∀ x ∈ xs, (Lit.int .u32 x).wf = true) (hl : bs.length = 64) (hb : ∀ x ∈ bs, (Lit.int .u8 x).wf = true) :
    Calls Tryd.prog 3 #[.agg (nums .u32 xs).toArray, .agg (nums .u8 bs).toArray] w fun e w' => e = .returned (.bool true) ∧ Below w.heap.size w w' := by
  match xs, h8 with
  | [a, b, c, d, e, f, g, h], _ =>
    have hwd : ∀ x ∈ [a, b, c, d, e, f, g, h], Wd x := fun x hxm => by
      have := bounds_u32 (hx x hxm)
      exact ⟨by omega, by omega⟩
    exact blocks_calls ⟨a, b, c, d, e, f, g, h⟩ bs w hK ⟨⟨hwd a (by simp), hwd b (by simp), hwd c (by simp), hwd d (by simp)⟩, ⟨hwd e (by simp), hwd f (by simp), hwd g (by simp), hwd h (by simp)⟩⟩ hl (wf_u8s hb)
end Go.Proofs.YtacebcmgdcmmpaaDoor.Hand
