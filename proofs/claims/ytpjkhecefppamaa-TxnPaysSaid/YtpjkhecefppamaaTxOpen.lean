/- A transaction that comes in, opened. -/
import Derived.Test.YtpjkhecefppamaaProg
import Derived.Below
import Derived.Deep.Draws
import Derived.Deep.AppendLies
import Derived.Maps.AppendAt
import Derived.OwnWalk
import Derived.Laws.BytesArg
import Derived.Laws.MakeOwn
import Derived.Laws.OwnMore
import Derived.Deep.OwnRows
import Derived.Tactics
import Derived.Lib.ConvBytes
import Derived.Laws.Slices
import Derived.WalkKit
import Derived.KernelRfl
import Derived.RowKit3
import Derived.Deep.LoopGhost
import Derived.Deep.QuietTactic
import Derived.BigQuiet
import Derived.WideLaws
import Derived.Deep.DeepCutAuto
import Derived.Deep.CutBlock
import Derived.Deep.RegionHeld3
import Derived.Laws.Rows
import Derived.Lib.AppendStr
import Derived.ArgAppend
import Derived.Laws.IdiomCopy
import Derived.OrdersHeld
import Derived.Laws.BitsLemmas
import Derived.RowKit
import Derived.StillTailTactics
import Derived.Test.YtpjkhecefppamaaWWords
import Derived.Test.YtpjkhecefppamaaWLast
import Derived.Test.YtpjkhecefppamaaWMore
import Derived.Test.YtpjkhecefppamaaTxnPlain
import Derived.Test.YtpjkhecefppamaaWArr
namespace Go.Proofs.Ytpjkhecefppamaa.Hand
open Go Go.RowKit Go.Proofs.Ytpjkhecefppamaa.PAll Go.Proofs.YtpjkhecefppamaaW.PrintWords Go.Proofs.YtpjkhecefppamaaW.PrintLast Go.Proofs.YtpjkhecefppamaaW.PrintMore
set_option linter.unusedVariables false
def outOf (x : Int × List Int) : OutT := ⟨x.1, x.2⟩
theorem C_outs {w : World} {A : Option Addr} {n : Nat} {xs : List (Int × List Int)} (h : Kd.C (Kd.pair (Kd.int .u64) (Kd.slice 5 (Kd.int .u8))) w A n xs) : Kd.C k54 w A n (xs.map outOf) := by
  obtain ⟨h1, h2, h3⟩ := h
  refine ⟨by rw [List.length_map]; exact h1, h2, fun hn => ?_⟩
  obtain ⟨ad, e, h4⟩ := h3 hn
  refine ⟨ad, e, fun j p hj => ?_⟩
  rw [List.getElem?_map] at hj
  cases hx : xs[j]? with
  | none => rw [hx] at hj; cases hj
  | some x =>
    rw [hx] at hj
    obtain rfl := Option.some.inj hj
    exact h4 j x hx
theorem K_tx {w : World} {x : Int × List (Int × List Int)} {cs : Array Value} (h : (Kd.pair (Kd.int .u64) (Kd.slice 54 (Kd.pair (Kd.int .u64) (Kd.slice 5 (Kd.int .u8))))).K w x cs.toList) :
    ∃ A c, cs = #[.int .u64 x.1, .slice A (x.2.map outOf).length c] ∧ (x.2.map outOf).length ≤ c ∧ Kd.C k54 w A (x.2.map outOf).length (x.2.map outOf) := by
  obtain ⟨_, _, e1, rfl, ⟨A, c, rfl, l, g⟩⟩ := h
  refine ⟨A, c, ?_, by rw [List.length_map]; exact l, by rw [List.length_map]; exact C_outs g⟩
  cases cs
  simp only at e1
  rw [e1, List.length_map]
  rfl
theorem arr_nums {w : World} {k : IntKind} {n : Nat} {hs : 0 < (Kd.int k).sz} {xs : List Int} {cs : Array Value} (h : (Kd.arr n (Kd.int k) hs).K w xs cs.toList) : xs.length = n ∧ cs = (nums k xs).toArray := by
  obtain ⟨h1, h2⟩ := h
  refine ⟨h1, ?_⟩
  have hl : cs.toList.length = xs.length := by have h3 : cs.toList.length = xs.length * 1 := h2.1; omega
  have : cs.toList = nums k xs := by
    apply List.ext_getElem?
    intro j
    by_cases hj : j < xs.length
    · have h3 := h2.2 j xs[j] (List.getElem?_eq_getElem hj)
      have h4 : (cs.toList.drop (j * 1)).take 1 = [.int k xs[j]] := h3
      have h5 : ((cs.toList.drop (j * 1)).take 1)[0]? = some (.int k xs[j]) := by rw [h4]; rfl
      rw [List.getElem?_take, if_pos (by decide), List.getElem?_drop, Nat.mul_one, Nat.add_zero] at h5
      rw [h5, nums, List.getElem?_map, List.getElem?_eq_getElem hj]
      rfl
    · rw [List.getElem?_eq_none (by omega), List.getElem?_eq_none (by simp [nums]; omega)]
  rw [← this]
end Go.Proofs.Ytpjkhecefppamaa.Hand
