/- The law All: what the Go functions that it reaches compute, and that they do. -/
import Derived.Test.YtakpohcobpbjkaaProg
import Derived.Below
import Derived.Deep.Draws
import Derived.Deep.AppendLies
import Derived.Maps.AppendAt
import Derived.OwnWalk
import Derived.Laws.BytesArg
import Derived.Laws.MakeOwn
import Derived.Laws.OwnMore
import Derived.Deep.OwnRows
import Derived.Tactics
import Derived.Lib.ConvBytes
import Derived.Laws.Slices
import Derived.WalkKit
import Derived.KernelRfl
import Derived.RowKit3
import Derived.Deep.LoopGhost
import Derived.Deep.QuietTactic
import Derived.BigQuiet
import Derived.WideLaws
import Derived.Deep.DeepCutAuto
import Derived.Deep.CutBlock
import Derived.Deep.RegionHeld3
import Derived.Laws.Rows
import Derived.Lib.AppendStr
import Derived.ArgAppend
import Derived.Laws.IdiomCopy
import Derived.OrdersHeld
import Derived.Laws.BitsLemmas
import Derived.RowKit
import Derived.Test.YtakpohcobpbjkaaWWords
import Derived.Test.YtakpohcobpbjkaaWLast
import Derived.Test.YtakpohcobpbjkaaWTab
import Derived.Test.YtakpohcobpbjkaaWFour
import Derived.Test.YtakpohcobpbjkaaWQPut
import Derived.Test.YtakpohcobpbjkaaWApart
import Derived.Test.YtakpohcobpbjkaaWArr
import Derived.Test.YtakpohcobpbjkaaWZeros
import Derived.Test.YtakpohcobpbjkaaWFoot
import Derived.Test.YtakpohcobpbjkaaWKept
import Derived.Test.YtakpohcobpbjkaaWShare
import Derived.Test.YtakpohcobpbjkaaWN
import Derived.Test.YtakpohcobpbjkaaWFootNe
import Derived.Test.YtakpohcobpbjkaaWAt
import Derived.Test.YtakpohcobpbjkaaWEqStruct
import Derived.Test.YtakpohcobpbjkaaWRepsOne
import Derived.Test.YtakpohcobpbjkaaWInv
import Derived.Test.YtakpohcobpbjkaaWInvWords
import Derived.Test.YtakpohcobpbjkaaWGuard
import Derived.Test.YtakpohcobpbjkaaWNEv
import Derived.Test.YtakpohcobpbjkaaWMore
namespace Go.Proofs.Ytakpohcobpbjkaa.PAll
open Go.RowKit Go.Proofs.YtakpohcobpbjkaaW.PrintWords Go.Proofs.YtakpohcobpbjkaaW.PrintLast Go.Proofs.YtakpohcobpbjkaaW.PrintMore
attribute [local go_sem] max2_int min2_int max_two min_two max_three min_three max_four min_four   -- for this text's walks alone
set_option linter.unusedVariables false
set_option linter.unusedSimpArgs false



def errW : Option Int → Value
  | none => .nilIface
  | some c => .iface 0 (.int .i64 c)
theorem errW_none : errW none = .nilIface := rfl
theorem errW_some (c : Int) : errW (some c) = .iface 0 (.int .i64 c) := rfl

theorem info5 : (Try.prog.info? 5).map (fun i => (i.zero, i.size, i.bytes)) = some (some (.int .u8 0), 1, 1) := by kernel_rfl
-- the values' own types

end Go.Proofs.Ytakpohcobpbjkaa.PAll
