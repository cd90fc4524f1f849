/- A branch as a parameter. -/
import Derived.Test.YtlmcdkjobdcflaaDoorProg
import Derived.Below
import Derived.Deep.Draws
import Derived.Deep.AppendLies
import Derived.Maps.AppendAt
import Derived.OwnWalk
import Derived.Laws.BytesArg
import Derived.Laws.MakeOwn
import Derived.Laws.OwnMore
import Derived.Deep.OwnRows
import Derived.Tactics
import Derived.Lib.ConvBytes
import Derived.Laws.Slices
import Derived.WalkKit
import Derived.KernelRfl
import Derived.RowKit3
import Derived.Deep.LoopGhost
import Derived.Deep.QuietTactic
import Derived.BigQuiet
import Derived.WideLaws
import Derived.Deep.DeepCutAuto
import Derived.Deep.CutBlock
import Derived.Deep.RegionHeld3
import Derived.Laws.Rows
import Derived.Lib.AppendStr
import Derived.ArgAppend
import Derived.Laws.IdiomCopy
import Derived.OrdersHeld
import Derived.Laws.BitsLemmas
import Derived.RowKit
import Derived.StillTailTactics
import Derived.Test.YtlmcdkjobdcflaaDoorWWords
import Derived.Test.YtlmcdkjobdcflaaDoorWLast
import Derived.Test.YtlmcdkjobdcflaaDoorWMore
import Derived.Lib.Hide
import Derived.Test.YtlmcdkjobdcflaaDoorOpens2
import Derived.Test.YtlmcdkjobdcflaaDoorBranA
namespace Go.Proofs.YtlmcdkjobdcflaaDoor.Hand
open Go Go.RowKit Go.Proofs.YtlmcdkjobdcflaaDoor.Plain Go.Proofs.YtlmcdkjobdcflaaDoor.PAll Go.Proofs.YtlmcdkjobdcflaaDoorW.PrintWords Go.Proofs.YtlmcdkjobdcflaaDoorW.PrintLast Go.Proofs.YtlmcdkjobdcflaaDoorW.PrintMore
set_option linter.unusedVariables false
/-- What an opened branch says. -/
theorem branch_open {w : World} {x : Int × Int × List (List Int)} {cs : Array Value}
    (K : (Kd.pair (Kd.int .i64) (Kd.pair (Kd.int .i64) (Kd.slice 25 kH))).K w x cs.toList)
    (h0 : (Lit.int .i64 x.1).wf = true) (h1 : (Lit.int .i64 x.2.1).wf = true) (h2 : ∀ y ∈ x.2.2, ∀ z ∈ y, (Lit.int .u8 z).wf = true) :
    ∃ cnt idx A m c xs, (Value.agg cs) = bV cnt idx A m c ∧ m = List.length xs ∧ Kd.C kH w A m xs ∧ m ≤ c ∧ Hs xs ∧ -9223372036854775808 ≤ cnt ∧ cnt ≤ 9223372036854775807 := by
  obtain ⟨cnt, idx, xs⟩ := x
  obtain ⟨c0, c1, e0, k0, d1, d2, e1, k1, k2⟩ := K
  obtain rfl : c0 = [.int .i64 cnt] := k0
  obtain rfl : d1 = [.int .i64 idx] := k1
  obtain ⟨A, c, hd, hc, hC⟩ := k2
  subst e1
  have a0 := Plain.wf_i64 h0
  refine ⟨cnt, idx, A, xs.length, c, xs, ?_, rfl, hC, hc, Hs_of hC h2, a0.1, a0.2⟩
  unfold bV
  congr 1
  apply Array.toList_inj.1
  rw [e0, hd]
  rfl
end Go.Proofs.YtlmcdkjobdcflaaDoor.Hand
