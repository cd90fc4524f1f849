/- A header as a parameter. -/
import Derived.Test.YtefnpecncacepaaDoorProg
import Derived.Below
import Derived.Deep.Draws
import Derived.Deep.AppendLies
import Derived.Maps.AppendAt
import Derived.OwnWalk
import Derived.Laws.BytesArg
import Derived.Laws.MakeOwn
import Derived.Laws.OwnMore
import Derived.Deep.OwnRows
import Derived.Tactics
import Derived.Lib.ConvBytes
import Derived.Laws.Slices
import Derived.WalkKit
import Derived.KernelRfl
import Derived.RowKit3
import Derived.Deep.LoopGhost
import Derived.Deep.QuietTactic
import Derived.BigQuiet
import Derived.WideLaws
import Derived.Deep.DeepCutAuto
import Derived.Deep.CutBlock
import Derived.Deep.RegionHeld3
import Derived.Laws.Rows
import Derived.Lib.AppendStr
import Derived.ArgAppend
import Derived.Laws.IdiomCopy
import Derived.OrdersHeld
import Derived.Laws.BitsLemmas
import Derived.RowKit
import Derived.StillTailTactics
import Derived.Test.YtefnpecncacepaaDoorWWords
import Derived.Test.YtefnpecncacepaaDoorWLast
import Derived.Test.YtefnpecncacepaaDoorWMore
import Derived.Lib.Hide
import Derived.Test.YtefnpecncacepaaDoorOpens2
import Derived.Test.YtefnpecncacepaaDoorApartLaw
namespace Go.Proofs.YtefnpecncacepaaDoor.Hand
open Go Go.RowKit Go.Proofs.YtefnpecncacepaaDoor.Plain Go.Proofs.YtefnpecncacepaaDoor.PAll Go.Proofs.YtefnpecncacepaaDoorW.PrintWords Go.Proofs.YtefnpecncacepaaDoorW.PrintLast Go.Proofs.YtefnpecncacepaaDoorW.PrintMore
set_option linter.unusedVariables false
theorem arr_cells {w : World} {n : Nat} {k : IntKind} {hs : 0 < (Kd.int k).sz} {x : List Int} {cs : List Value} (h : (Kd.arr n (Kd.int k) hs).K w x cs) : x.length = n ∧ cs = nums k x := by
  obtain ⟨h1, h2, h3⟩ := h
  have hl : cs.length = x.length := by
    rw [h2]
    show x.length * 1 = _
    omega
  refine ⟨h1, List.ext_getElem (by simp [nums, hl]) fun i hi hi2 => ?_⟩
  have hx : i < x.length := by omega
  have h4 : (cs.drop (i * 1)).take 1 = [Value.int k x[i]] := h3 i x[i] (List.getElem?_eq_getElem hx)
  have h5 : ((cs.drop (i * 1)).take 1)[0]? = some (Value.int k x[i]) := by rw [h4]; rfl
  rw [List.getElem?_take_of_lt (by decide), List.getElem?_drop, Nat.mul_one, Nat.add_zero, List.getElem?_eq_getElem hi] at h5
  simp only [nums, List.getElem_map]
  exact Option.some.inj h5
/-- What an opened header says. -/
theorem head_open {w : World} {hs : 0 < (Kd.int .u8).sz} {x : Int × List Int × List Int × Int × Int × Int} {cs : Array Value}
    (K : (Kd.pair (Kd.int .u32) (Kd.pair (Kd.arr 32 (Kd.int .u8) hs) (Kd.pair (Kd.arr 32 (Kd.int .u8) hs) (Kd.pair (Kd.int .u32) (Kd.pair (Kd.int .u32) (Kd.int .u32)))))).K w x cs.toList)
    (h0 : (Lit.int .u32 x.1).wf = true) (h1 : ∀ y ∈ x.2.1, (Lit.int .u8 y).wf = true) (h2 : ∀ y ∈ x.2.2.1, (Lit.int .u8 y).wf = true) (h3 : (Lit.int .u32 x.2.2.2.1).wf = true) (h4 : (Lit.int .u32 x.2.2.2.2.1).wf = true) (h5 : (Lit.int .u32 x.2.2.2.2.2).wf = true) :
    ∃ v p r t b n, (Value.agg cs) = hV v p r t b n ∧ HWf v p r t b n := by
  obtain ⟨v, p, r, t, b, n⟩ := x
  obtain ⟨c0, c1, e0, k0, d1, d2, e1, k1, d3, d4, e2, k2, d5, d6, e3, k3, d7, d8, e4, k4, k5⟩ := K
  obtain ⟨lp, rfl⟩ := arr_cells k1
  obtain ⟨lr, rfl⟩ := arr_cells k2
  obtain rfl : c0 = [.int .u32 v] := k0
  obtain rfl : d5 = [.int .u32 t] := k3
  obtain rfl : d7 = [.int .u32 b] := k4
  obtain rfl : d8 = [.int .u32 n] := k5
  subst e4 e3 e2 e1
  have a0 := bounds_u32 h0
  have a3 := bounds_u32 h3
  have a4 := bounds_u32 h4
  have a5 := bounds_u32 h5
  refine ⟨v, p, r, t, b, n, ?_, lp, lr, by simp at a0; omega, by simp at a3; omega, by simp at a4; omega, by simp at a5; omega, wf_u8s h1, wf_u8s h2⟩
  unfold hV
  congr 1
  apply Array.toList_inj.1
  rw [e0]
  rfl
end Go.Proofs.YtefnpecncacepaaDoor.Hand
