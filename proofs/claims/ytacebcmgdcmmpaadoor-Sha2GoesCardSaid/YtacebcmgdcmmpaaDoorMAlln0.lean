/- The law All: what the Go functions that it reaches compute, and that they do. -/
import Derived.Test.YtacebcmgdcmmpaaDoorProg
import Derived.Below
import Derived.Deep.Draws
import Derived.Deep.AppendLies
import Derived.Maps.AppendAt
import Derived.OwnWalk
import Derived.Laws.BytesArg
import Derived.Laws.MakeOwn
import Derived.Laws.OwnMore
import Derived.Deep.OwnRows
import Derived.Tactics
import Derived.Lib.ConvBytes
import Derived.Laws.Slices
import Derived.WalkKit
import Derived.KernelRfl
import Derived.RowKit3
import Derived.Deep.LoopGhost
import Derived.Deep.QuietTactic
import Derived.BigQuiet
import Derived.WideLaws
import Derived.Deep.DeepCutAuto
import Derived.Deep.CutBlock
import Derived.Deep.RegionHeld3
import Derived.Laws.Rows
import Derived.Lib.AppendStr
import Derived.ArgAppend
import Derived.Laws.IdiomCopy
import Derived.OrdersHeld
import Derived.Laws.BitsLemmas
import Derived.RowKit
import Derived.Test.YtacebcmgdcmmpaaDoorWWords
import Derived.Test.YtacebcmgdcmmpaaDoorWLast
import Derived.Test.YtacebcmgdcmmpaaDoorWTab
import Derived.Test.YtacebcmgdcmmpaaDoorWFour
import Derived.Test.YtacebcmgdcmmpaaDoorWQPut
import Derived.Test.YtacebcmgdcmmpaaDoorWApart
import Derived.Test.YtacebcmgdcmmpaaDoorWArr
import Derived.Test.YtacebcmgdcmmpaaDoorWZeros
import Derived.Test.YtacebcmgdcmmpaaDoorWFoot
import Derived.Test.YtacebcmgdcmmpaaDoorWKept
import Derived.Test.YtacebcmgdcmmpaaDoorWShare
import Derived.Test.YtacebcmgdcmmpaaDoorWN
import Derived.Test.YtacebcmgdcmmpaaDoorWFootNe
import Derived.Test.YtacebcmgdcmmpaaDoorWAt
import Derived.Test.YtacebcmgdcmmpaaDoorWEqStruct
import Derived.Test.YtacebcmgdcmmpaaDoorWRepsOne
import Derived.Test.YtacebcmgdcmmpaaDoorWInv
import Derived.Test.YtacebcmgdcmmpaaDoorWInvWords
import Derived.Test.YtacebcmgdcmmpaaDoorWGuard
import Derived.Test.YtacebcmgdcmmpaaDoorWNEv
import Derived.Test.YtacebcmgdcmmpaaDoorWMore
namespace Go.Proofs.YtacebcmgdcmmpaaDoor.PAll
open Go.RowKit Go.Proofs.YtacebcmgdcmmpaaDoorW.PrintWords Go.Proofs.YtacebcmgdcmmpaaDoorW.PrintLast Go.Proofs.YtacebcmgdcmmpaaDoorW.PrintMore
attribute [local go_sem] max2_int min2_int max_two min_two max_three min_three max_four min_four   -- for this text's walks alone
set_option linter.unusedVariables false
set_option linter.unusedSimpArgs false



def errW : Option Int → Value
  | none => .nilIface
  | some c => .iface 0 (.int .i64 c)
theorem errW_none : errW none = .nilIface := rfl
theorem errW_some (c : Int) : errW (some c) = .iface 0 (.int .i64 c) := rfl

theorem info5 : (Tryd.prog.info? 5).map (fun i => (i.zero, i.size, i.bytes)) = some (some (.int .u8 0), 1, 1) := by kernel_rfl
-- the values' own types

end Go.Proofs.YtacebcmgdcmmpaaDoor.PAll
