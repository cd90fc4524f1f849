/- Whether a kind uses a field: walked (msg.uses). -/
import Derived.Test.YtfcmdhimlfoofaaProg
import Derived.Below
import Derived.Deep.Draws
import Derived.Deep.AppendLies
import Derived.Maps.AppendAt
import Derived.OwnWalk
import Derived.Laws.BytesArg
import Derived.Laws.MakeOwn
import Derived.Laws.OwnMore
import Derived.Deep.OwnRows
import Derived.Tactics
import Derived.Lib.ConvBytes
import Derived.Laws.Slices
import Derived.WalkKit
import Derived.KernelRfl
import Derived.RowKit3
import Derived.Deep.LoopGhost
import Derived.Deep.QuietTactic
import Derived.BigQuiet
import Derived.WideLaws
import Derived.Deep.DeepCutAuto
import Derived.Deep.CutBlock
import Derived.Deep.RegionHeld3
import Derived.Laws.Rows
import Derived.Lib.AppendStr
import Derived.ArgAppend
import Derived.Laws.IdiomCopy
import Derived.OrdersHeld
import Derived.Laws.BitsLemmas
import Derived.RowKit
import Derived.StillTailTactics
import Derived.Test.YtfcmdhimlfoofaaWWords
import Derived.Test.YtfcmdhimlfoofaaWLast
import Derived.Test.YtfcmdhimlfoofaaWMore
import Derived.Lib.Hide
import Derived.Outline
import Derived.Deep.MidRow
import Derived.Deep.WholeRow
import Derived.Deep.DrawnRows
import Derived.Test.YtfcmdhimlfoofaaName16
namespace Go.Proofs.Ytfcmdhimlfoofaa.Hand
open Go Go.RowKit Go.Proofs.Ytfcmdhimlfoofaa.Plain Go.Proofs.Ytfcmdhimlfoofaa.PAll Go.Proofs.YtfcmdhimlfoofaaW.PrintWords Go.Proofs.YtfcmdhimlfoofaaW.PrintLast Go.Proofs.YtfcmdhimlfoofaaW.PrintMore
set_option linter.unusedVariables false
set_option linter.unusedSimpArgs false
set_option maxRecDepth 100000
attribute [local go_sem ↓] Go.wp_at_zero Go.wp_at_succ
theorem built_rows : Try.prog.built 91 [(1, .int .u16 259), (2, .int .u16 260), (3, .int .u16 16), (4, .int .u16 48), (5, .int .u16 80), (6, .int .u16 208), (7, .int .u16 256), (8, .int .u16 256), (9, .int .u16 856)] = some #[.int .u16 0, .int .u16 259, .int .u16 260, .int .u16 16, .int .u16 48, .int .u16 80, .int .u16 208, .int .u16 256, .int .u16 256, .int .u16 856] := by kernel_rfl
theorem infoRows : (Try.prog.info? 91).map (fun i => (i.zero, i.size)) = some (some (.agg #[.int .u16 0, .int .u16 0, .int .u16 0, .int .u16 0, .int .u16 0, .int .u16 0, .int .u16 0, .int .u16 0, .int .u16 0, .int .u16 0]), 10) := by kernel_rfl
theorem ten {f : Nat} (h : f < 10) : f = 0 ∨ f = 1 ∨ f = 2 ∨ f = 3 ∨ f = 4 ∨ f = 5 ∨ f = 6 ∨ f = 7 ∨ f = 8 ∨ f = 9 := by omega
set_option maxHeartbeats 8000000 in
theorem uses_calls (k : Int) (f : Nat) (w : World) (h1 : 1 ≤ k) (h9 : k ≤ 9) (hf : f < 10) : Calls Try.prog 17 #[.int .i64 k, .int .i64 (f : Int)] w fun e w' => e = .returned (.bool (usesM k f)) ∧ Below w.heap.size w w' := by
  have hz := (zero_of_info infoRows).1
  have hi := (zero_of_info infoRows).2
  have hk := heap_alloc_new w (.cells #[.int .u16 0, .int .u16 259, .int .u16 260, .int .u16 16, .int .u16 48, .int .u16 80, .int .u16 208, .int .u16 256, .int .u16 256, .int .u16 856] 91)
  have HB := Lib.hid (below_alloc (Below.refl w.heap.size w) (.cells #[.int .u16 0, .int .u16 259, .int .u16 260, .int .u16 16, .int .u16 48, .int .u16 80, .int .u16 208, .int .u16 256, .int .u16 256, .int .u16 856] 91))
  rcases kinds h1 h9 with rfl | rfl | rfl | rfl | rfl | rfl | rfl | rfl | rfl
  all_goals
    rcases ten hf with rfl | rfl | rfl | rfl | rfl | rfl | rfl | rfl | rfl | rfl
    all_goals
      clear h1 h9 hf
      have c1 := (blk_cell hk 1).trans (show _ = some (Value.int .u16 259) from rfl)
      have c2 := (blk_cell hk 2).trans (show _ = some (Value.int .u16 260) from rfl)
      have c3 := (blk_cell hk 3).trans (show _ = some (Value.int .u16 16) from rfl)
      have c4 := (blk_cell hk 4).trans (show _ = some (Value.int .u16 48) from rfl)
      have c5 := (blk_cell hk 5).trans (show _ = some (Value.int .u16 80) from rfl)
      have c6 := (blk_cell hk 6).trans (show _ = some (Value.int .u16 208) from rfl)
      have c7 := (blk_cell hk 7).trans (show _ = some (Value.int .u16 256) from rfl)
      have c8 := (blk_cell hk 8).trans (show _ = some (Value.int .u16 256) from rfl)
      have c9 := (blk_cell hk 9).trans (show _ = some (Value.int .u16 856) from rfl)
      go_enter Try.func17, Try.ntmps17
      go_wp2_with (first
        | ((with_reducible show wpList _ _ _ (Oper.mk _ (Op.build _ _) _ _ _ _ :: _) _ _); (go_loud (refine wpl_build rfl 91 _ rfl #[(1, .int .u16 259), (2, .int .u16 260), (3, .int .u16 16), (4, .int .u16 48), (5, .int .u16 80), (6, .int .u16 208), (7, .int .u16 256), (8, .int .u16 256), (9, .int .u16 856)] (by simp [Act.eval]) #[.int .u16 0, .int .u16 259, .int .u16 260, .int .u16 16, .int .u16 48, .int .u16 80, .int .u16 208, .int .u16 256, .int .u16 256, .int .u16 856] built_rows ?_)))
        | ((with_reducible show wpList _ _ _ (Oper.mk _ (Op.store _ (.tmp 5) _) _ _ _ _ :: _) _ _); (go_loud (refine wpl_store_new rfl 91 (.tmp 5) (.tmp 6) rfl #[.int .u16 0, .int .u16 0, .int .u16 0, .int .u16 0, .int .u16 0, .int .u16 0, .int .u16 0, .int .u16 0, .int .u16 0, .int .u16 0] #[.int .u16 0, .int .u16 259, .int .u16 260, .int .u16 16, .int .u16 48, .int .u16 80, .int .u16 208, .int .u16 256, .int .u16 256, .int .u16 856] rfl rfl hi rfl (by simp [Value.oneCell']) ?_))))
      go_ret
      exact ⟨by first | rfl | decide, HB.out⟩
end Go.Proofs.Ytfcmdhimlfoofaa.Hand
