/- The law All: what the Go functions that it reaches compute, and that they do. -/
import Derived.Test.YtmpkopkibkjgfaaProg
import Derived.Below
import Derived.Deep.Draws
import Derived.Deep.AppendLies
import Derived.Maps.AppendAt
import Derived.OwnWalk
import Derived.Laws.BytesArg
import Derived.Laws.MakeOwn
import Derived.Laws.OwnMore
import Derived.Deep.OwnRows
import Derived.Tactics
import Derived.Lib.ConvBytes
import Derived.Laws.Slices
import Derived.WalkKit
import Derived.KernelRfl
import Derived.RowKit3
import Derived.Deep.LoopGhost
import Derived.Deep.QuietTactic
import Derived.BigQuiet
import Derived.WideLaws
import Derived.Deep.DeepCutAuto
import Derived.Deep.CutBlock
import Derived.Deep.RegionHeld3
import Derived.Laws.Rows
import Derived.Lib.AppendStr
import Derived.ArgAppend
import Derived.Laws.IdiomCopy
import Derived.OrdersHeld
import Derived.Laws.BitsLemmas
import Derived.RowKit
import Derived.Test.YtmpkopkibkjgfaaWWords
import Derived.Test.YtmpkopkibkjgfaaWLast
import Derived.Test.YtmpkopkibkjgfaaWTab
import Derived.Test.YtmpkopkibkjgfaaWFour
import Derived.Test.YtmpkopkibkjgfaaWQPut
import Derived.Test.YtmpkopkibkjgfaaWApart
import Derived.Test.YtmpkopkibkjgfaaWArr
import Derived.Test.YtmpkopkibkjgfaaWZeros
import Derived.Test.YtmpkopkibkjgfaaWFoot
import Derived.Test.YtmpkopkibkjgfaaWKept
import Derived.Test.YtmpkopkibkjgfaaWShare
import Derived.Test.YtmpkopkibkjgfaaWN
import Derived.Test.YtmpkopkibkjgfaaWFootNe
import Derived.Test.YtmpkopkibkjgfaaWAt
import Derived.Test.YtmpkopkibkjgfaaWEqStruct
import Derived.Test.YtmpkopkibkjgfaaWRepsOne
import Derived.Test.YtmpkopkibkjgfaaWInv
import Derived.Test.YtmpkopkibkjgfaaWInvWords
import Derived.Test.YtmpkopkibkjgfaaWGuard
import Derived.Test.YtmpkopkibkjgfaaWNEv
import Derived.Test.YtmpkopkibkjgfaaWMore
namespace Go.Proofs.Ytmpkopkibkjgfaa.PAll
open Go.RowKit Go.Proofs.YtmpkopkibkjgfaaW.PrintWords Go.Proofs.YtmpkopkibkjgfaaW.PrintLast Go.Proofs.YtmpkopkibkjgfaaW.PrintMore
attribute [local go_sem] max2_int min2_int max_two min_two max_three min_three max_four min_four   -- for this text's walks alone
set_option linter.unusedVariables false
set_option linter.unusedSimpArgs false



def errW : Option Int → Value
  | none => .nilIface
  | some c => .iface 0 (.int .i64 c)
theorem errW_none : errW none = .nilIface := rfl
theorem errW_some (c : Int) : errW (some c) = .iface 0 (.int .i64 c) := rfl

theorem info5 : (Try.prog.info? 5).map (fun i => (i.zero, i.size, i.bytes)) = some (some (.int .u8 0), 1, 1) := by kernel_rfl
-- the values' own types

end Go.Proofs.Ytmpkopkibkjgfaa.PAll
