/- The law All: what the Go functions that it reaches compute, and that they do. -/
import Derived.Test.YtpjkhecefppamaaDoorMAlln0
namespace Go.Proofs.YtpjkhecefppamaaDoor.PAll
open Go.RowKit Go.Proofs.YtpjkhecefppamaaDoorW.PrintWords Go.Proofs.YtpjkhecefppamaaDoorW.PrintLast Go.Proofs.YtpjkhecefppamaaDoorW.PrintMore
attribute [local go_sem] max2_int min2_int max_two min_two max_three min_three max_four min_four   -- for this text's walks alone
set_option linter.unusedVariables false
set_option linter.unusedSimpArgs false

theorem eqA57 (d : Nat) (w : World) (x0 y0 : Int) (x1 y1 : ByteArray) :
    (Op.equalIn (d + 2) 57 (.agg #[.int .u64 x0, .string x1]) (.agg #[.int .u64 y0, .string y1])).run Tryd.prog w = .ok (x0 == y0 && (x1.toList == y1.toList)) w := by
  refine eqA_of Tryd.underlying57 (by kernel_rfl) ?_
  refine eqf_cons (by rfl) (by go_simp; rfl) (by go_simp; rfl) (by go_simp) ?_
  exact eqf_last (by rfl) (by go_simp; rfl) (by go_simp; rfl) (by go_simp)
end Go.Proofs.YtpjkhecefppamaaDoor.PAll
