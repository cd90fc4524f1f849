/- A kind's name, and whether it uses a field: walked (msg.Name, msg.uses). -/
import Derived.Test.YtfcmdhimlfoofaaProg
import Derived.Below
import Derived.Deep.Draws
import Derived.Deep.AppendLies
import Derived.Maps.AppendAt
import Derived.OwnWalk
import Derived.Laws.BytesArg
import Derived.Laws.MakeOwn
import Derived.Laws.OwnMore
import Derived.Deep.OwnRows
import Derived.Tactics
import Derived.Lib.ConvBytes
import Derived.Laws.Slices
import Derived.WalkKit
import Derived.KernelRfl
import Derived.RowKit3
import Derived.Deep.LoopGhost
import Derived.Deep.QuietTactic
import Derived.BigQuiet
import Derived.WideLaws
import Derived.Deep.DeepCutAuto
import Derived.Deep.CutBlock
import Derived.Deep.RegionHeld3
import Derived.Laws.Rows
import Derived.Lib.AppendStr
import Derived.ArgAppend
import Derived.Laws.IdiomCopy
import Derived.OrdersHeld
import Derived.Laws.BitsLemmas
import Derived.RowKit
import Derived.StillTailTactics
import Derived.Test.YtfcmdhimlfoofaaWWords
import Derived.Test.YtfcmdhimlfoofaaWLast
import Derived.Test.YtfcmdhimlfoofaaWMore
import Derived.Lib.Hide
import Derived.Outline
import Derived.Deep.MidRow
import Derived.Deep.WholeRow
import Derived.Deep.DrawnRows
import Derived.Test.YtfcmdhimlfoofaaCells
import Derived.Test.YtfcmdhimlfoofaaMsgPlain
namespace Go.Proofs.Ytfcmdhimlfoofaa.Hand
open Go Go.RowKit Go.Proofs.Ytfcmdhimlfoofaa.Plain Go.Proofs.Ytfcmdhimlfoofaa.PAll Go.Proofs.YtfcmdhimlfoofaaW.PrintWords Go.Proofs.YtfcmdhimlfoofaaW.PrintLast Go.Proofs.YtfcmdhimlfoofaaW.PrintMore
set_option linter.unusedVariables false
set_option linter.unusedSimpArgs false
set_option maxRecDepth 100000
attribute [local go_sem ↓] Go.wp_at_zero Go.wp_at_succ
/-- The names. -/
def nameM (k : Int) : ByteArray := if k = 1 then ⟨#[103, 101, 116, 104, 101, 97, 100, 101, 114, 115]⟩ else if k = 2 then ⟨#[104, 101, 97, 100, 101, 114, 115]⟩ else if k = 3 then ⟨#[103, 101, 116, 102, 105, 108, 116, 101, 114]⟩ else if k = 4 then ⟨#[102, 105, 108, 116, 101, 114]⟩ else if k = 5 then ⟨#[103, 101, 116, 112, 114, 111, 111, 102]⟩ else if k = 6 then ⟨#[112, 114, 111, 111, 102]⟩ else if k = 7 then ⟨#[112, 105, 110, 103]⟩ else if k = 8 then ⟨#[112, 111, 110, 103]⟩ else if k = 9 then ⟨#[114, 101, 106, 101, 99, 116]⟩ else ⟨#[]⟩
theorem kinds {k : Int} (h1 : 1 ≤ k) (h9 : k ≤ 9) : k = 1 ∨ k = 2 ∨ k = 3 ∨ k = 4 ∨ k = 5 ∨ k = 6 ∨ k = 7 ∨ k = 8 ∨ k = 9 := by omega
theorem name_none {k : Int} (h : k < 1 ∨ 9 < k) : nameM k = ⟨#[]⟩ := by
  unfold nameM
  repeat rw [if_neg (by omega)]
theorem built_names : Try.prog.built 56 [(0, .string ⟨#[103, 101, 116, 104, 101, 97, 100, 101, 114, 115]⟩), (1, .string ⟨#[104, 101, 97, 100, 101, 114, 115]⟩), (2, .string ⟨#[103, 101, 116, 102, 105, 108, 116, 101, 114]⟩), (3, .string ⟨#[102, 105, 108, 116, 101, 114]⟩), (4, .string ⟨#[103, 101, 116, 112, 114, 111, 111, 102]⟩), (5, .string ⟨#[112, 114, 111, 111, 102]⟩), (6, .string ⟨#[112, 105, 110, 103]⟩), (7, .string ⟨#[112, 111, 110, 103]⟩), (8, .string ⟨#[114, 101, 106, 101, 99, 116]⟩)] = some #[.string ⟨#[103, 101, 116, 104, 101, 97, 100, 101, 114, 115]⟩, .string ⟨#[104, 101, 97, 100, 101, 114, 115]⟩, .string ⟨#[103, 101, 116, 102, 105, 108, 116, 101, 114]⟩, .string ⟨#[102, 105, 108, 116, 101, 114]⟩, .string ⟨#[103, 101, 116, 112, 114, 111, 111, 102]⟩, .string ⟨#[112, 114, 111, 111, 102]⟩, .string ⟨#[112, 105, 110, 103]⟩, .string ⟨#[112, 111, 110, 103]⟩, .string ⟨#[114, 101, 106, 101, 99, 116]⟩] := by kernel_rfl
theorem idx_name0 (w : World) : (Instr.index 56 (.agg #[.string ⟨#[103, 101, 116, 104, 101, 97, 100, 101, 114, 115]⟩, .string ⟨#[104, 101, 97, 100, 101, 114, 115]⟩, .string ⟨#[103, 101, 116, 102, 105, 108, 116, 101, 114]⟩, .string ⟨#[102, 105, 108, 116, 101, 114]⟩, .string ⟨#[103, 101, 116, 112, 114, 111, 111, 102]⟩, .string ⟨#[112, 114, 111, 111, 102]⟩, .string ⟨#[112, 105, 110, 103]⟩, .string ⟨#[112, 111, 110, 103]⟩, .string ⟨#[114, 101, 106, 101, 99, 116]⟩]) (.int .i64 0)).run Try.prog w = .ok (.string ⟨#[103, 101, 116, 104, 101, 97, 100, 101, 114, 115]⟩) w := by kernel_rfl
theorem idx_name1 (w : World) : (Instr.index 56 (.agg #[.string ⟨#[103, 101, 116, 104, 101, 97, 100, 101, 114, 115]⟩, .string ⟨#[104, 101, 97, 100, 101, 114, 115]⟩, .string ⟨#[103, 101, 116, 102, 105, 108, 116, 101, 114]⟩, .string ⟨#[102, 105, 108, 116, 101, 114]⟩, .string ⟨#[103, 101, 116, 112, 114, 111, 111, 102]⟩, .string ⟨#[112, 114, 111, 111, 102]⟩, .string ⟨#[112, 105, 110, 103]⟩, .string ⟨#[112, 111, 110, 103]⟩, .string ⟨#[114, 101, 106, 101, 99, 116]⟩]) (.int .i64 1)).run Try.prog w = .ok (.string ⟨#[104, 101, 97, 100, 101, 114, 115]⟩) w := by kernel_rfl
theorem idx_name2 (w : World) : (Instr.index 56 (.agg #[.string ⟨#[103, 101, 116, 104, 101, 97, 100, 101, 114, 115]⟩, .string ⟨#[104, 101, 97, 100, 101, 114, 115]⟩, .string ⟨#[103, 101, 116, 102, 105, 108, 116, 101, 114]⟩, .string ⟨#[102, 105, 108, 116, 101, 114]⟩, .string ⟨#[103, 101, 116, 112, 114, 111, 111, 102]⟩, .string ⟨#[112, 114, 111, 111, 102]⟩, .string ⟨#[112, 105, 110, 103]⟩, .string ⟨#[112, 111, 110, 103]⟩, .string ⟨#[114, 101, 106, 101, 99, 116]⟩]) (.int .i64 2)).run Try.prog w = .ok (.string ⟨#[103, 101, 116, 102, 105, 108, 116, 101, 114]⟩) w := by kernel_rfl
theorem idx_name3 (w : World) : (Instr.index 56 (.agg #[.string ⟨#[103, 101, 116, 104, 101, 97, 100, 101, 114, 115]⟩, .string ⟨#[104, 101, 97, 100, 101, 114, 115]⟩, .string ⟨#[103, 101, 116, 102, 105, 108, 116, 101, 114]⟩, .string ⟨#[102, 105, 108, 116, 101, 114]⟩, .string ⟨#[103, 101, 116, 112, 114, 111, 111, 102]⟩, .string ⟨#[112, 114, 111, 111, 102]⟩, .string ⟨#[112, 105, 110, 103]⟩, .string ⟨#[112, 111, 110, 103]⟩, .string ⟨#[114, 101, 106, 101, 99, 116]⟩]) (.int .i64 3)).run Try.prog w = .ok (.string ⟨#[102, 105, 108, 116, 101, 114]⟩) w := by kernel_rfl
theorem idx_name4 (w : World) : (Instr.index 56 (.agg #[.string ⟨#[103, 101, 116, 104, 101, 97, 100, 101, 114, 115]⟩, .string ⟨#[104, 101, 97, 100, 101, 114, 115]⟩, .string ⟨#[103, 101, 116, 102, 105, 108, 116, 101, 114]⟩, .string ⟨#[102, 105, 108, 116, 101, 114]⟩, .string ⟨#[103, 101, 116, 112, 114, 111, 111, 102]⟩, .string ⟨#[112, 114, 111, 111, 102]⟩, .string ⟨#[112, 105, 110, 103]⟩, .string ⟨#[112, 111, 110, 103]⟩, .string ⟨#[114, 101, 106, 101, 99, 116]⟩]) (.int .i64 4)).run Try.prog w = .ok (.string ⟨#[103, 101, 116, 112, 114, 111, 111, 102]⟩) w := by kernel_rfl
theorem idx_name5 (w : World) : (Instr.index 56 (.agg #[.string ⟨#[103, 101, 116, 104, 101, 97, 100, 101, 114, 115]⟩, .string ⟨#[104, 101, 97, 100, 101, 114, 115]⟩, .string ⟨#[103, 101, 116, 102, 105, 108, 116, 101, 114]⟩, .string ⟨#[102, 105, 108, 116, 101, 114]⟩, .string ⟨#[103, 101, 116, 112, 114, 111, 111, 102]⟩, .string ⟨#[112, 114, 111, 111, 102]⟩, .string ⟨#[112, 105, 110, 103]⟩, .string ⟨#[112, 111, 110, 103]⟩, .string ⟨#[114, 101, 106, 101, 99, 116]⟩]) (.int .i64 5)).run Try.prog w = .ok (.string ⟨#[112, 114, 111, 111, 102]⟩) w := by kernel_rfl
theorem idx_name6 (w : World) : (Instr.index 56 (.agg #[.string ⟨#[103, 101, 116, 104, 101, 97, 100, 101, 114, 115]⟩, .string ⟨#[104, 101, 97, 100, 101, 114, 115]⟩, .string ⟨#[103, 101, 116, 102, 105, 108, 116, 101, 114]⟩, .string ⟨#[102, 105, 108, 116, 101, 114]⟩, .string ⟨#[103, 101, 116, 112, 114, 111, 111, 102]⟩, .string ⟨#[112, 114, 111, 111, 102]⟩, .string ⟨#[112, 105, 110, 103]⟩, .string ⟨#[112, 111, 110, 103]⟩, .string ⟨#[114, 101, 106, 101, 99, 116]⟩]) (.int .i64 6)).run Try.prog w = .ok (.string ⟨#[112, 105, 110, 103]⟩) w := by kernel_rfl
theorem idx_name7 (w : World) : (Instr.index 56 (.agg #[.string ⟨#[103, 101, 116, 104, 101, 97, 100, 101, 114, 115]⟩, .string ⟨#[104, 101, 97, 100, 101, 114, 115]⟩, .string ⟨#[103, 101, 116, 102, 105, 108, 116, 101, 114]⟩, .string ⟨#[102, 105, 108, 116, 101, 114]⟩, .string ⟨#[103, 101, 116, 112, 114, 111, 111, 102]⟩, .string ⟨#[112, 114, 111, 111, 102]⟩, .string ⟨#[112, 105, 110, 103]⟩, .string ⟨#[112, 111, 110, 103]⟩, .string ⟨#[114, 101, 106, 101, 99, 116]⟩]) (.int .i64 7)).run Try.prog w = .ok (.string ⟨#[112, 111, 110, 103]⟩) w := by kernel_rfl
theorem idx_name8 (w : World) : (Instr.index 56 (.agg #[.string ⟨#[103, 101, 116, 104, 101, 97, 100, 101, 114, 115]⟩, .string ⟨#[104, 101, 97, 100, 101, 114, 115]⟩, .string ⟨#[103, 101, 116, 102, 105, 108, 116, 101, 114]⟩, .string ⟨#[102, 105, 108, 116, 101, 114]⟩, .string ⟨#[103, 101, 116, 112, 114, 111, 111, 102]⟩, .string ⟨#[112, 114, 111, 111, 102]⟩, .string ⟨#[112, 105, 110, 103]⟩, .string ⟨#[112, 111, 110, 103]⟩, .string ⟨#[114, 101, 106, 101, 99, 116]⟩]) (.int .i64 8)).run Try.prog w = .ok (.string ⟨#[114, 101, 106, 101, 99, 116]⟩) w := by kernel_rfl
set_option maxHeartbeats 4000000 in
theorem name_calls (k : Int) (w : World) : Calls Try.prog 8 #[.int .i64 k] w fun e w' => e = .returned (.string (nameM k)) ∧ Below w.heap.size w w' := by
  by_cases h1 : k < 1
  · rw [name_none (Or.inl h1)]
    go_enter Try.func8, Try.ntmps8
    go_wp2_with fail
    go_ret
    exact ⟨rfl, Below.refl _ _⟩
  by_cases h9 : 9 < k
  · rw [name_none (Or.inr h9)]
    go_enter Try.func8, Try.ntmps8
    go_wp2_with fail
    go_ret
    exact ⟨rfl, Below.refl _ _⟩
  rcases kinds (k := k) (by omega) (by omega) with rfl | rfl | rfl | rfl | rfl | rfl | rfl | rfl | rfl
  all_goals
    clear h1 h9
    have i0 := idx_name0 w
    have i1 := idx_name1 w
    have i2 := idx_name2 w
    have i3 := idx_name3 w
    have i4 := idx_name4 w
    have i5 := idx_name5 w
    have i6 := idx_name6 w
    have i7 := idx_name7 w
    have i8 := idx_name8 w
    go_enter Try.func8, Try.ntmps8
    go_wp2_with ((with_reducible show wpList _ _ _ (Oper.mk _ (Op.build _ _) _ _ _ _ :: _) _ _); (go_loud (refine wpl_build rfl 56 _ rfl #[(0, .string ⟨#[103, 101, 116, 104, 101, 97, 100, 101, 114, 115]⟩), (1, .string ⟨#[104, 101, 97, 100, 101, 114, 115]⟩), (2, .string ⟨#[103, 101, 116, 102, 105, 108, 116, 101, 114]⟩), (3, .string ⟨#[102, 105, 108, 116, 101, 114]⟩), (4, .string ⟨#[103, 101, 116, 112, 114, 111, 111, 102]⟩), (5, .string ⟨#[112, 114, 111, 111, 102]⟩), (6, .string ⟨#[112, 105, 110, 103]⟩), (7, .string ⟨#[112, 111, 110, 103]⟩), (8, .string ⟨#[114, 101, 106, 101, 99, 116]⟩)] (by simp [Act.eval]) #[.string ⟨#[103, 101, 116, 104, 101, 97, 100, 101, 114, 115]⟩, .string ⟨#[104, 101, 97, 100, 101, 114, 115]⟩, .string ⟨#[103, 101, 116, 102, 105, 108, 116, 101, 114]⟩, .string ⟨#[102, 105, 108, 116, 101, 114]⟩, .string ⟨#[103, 101, 116, 112, 114, 111, 111, 102]⟩, .string ⟨#[112, 114, 111, 111, 102]⟩, .string ⟨#[112, 105, 110, 103]⟩, .string ⟨#[112, 111, 110, 103]⟩, .string ⟨#[114, 101, 106, 101, 99, 116]⟩] built_names ?_)))
    go_ret
    exact ⟨rfl, Below.refl _ _⟩
end Go.Proofs.Ytfcmdhimlfoofaa.Hand
