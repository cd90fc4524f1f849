/- A header's hash: walked. -/
import Derived.Test.YtefnpecncacepaaProg
import Derived.Below
import Derived.Deep.Draws
import Derived.Deep.AppendLies
import Derived.Maps.AppendAt
import Derived.OwnWalk
import Derived.Laws.BytesArg
import Derived.Laws.MakeOwn
import Derived.Laws.OwnMore
import Derived.Deep.OwnRows
import Derived.Tactics
import Derived.Lib.ConvBytes
import Derived.Laws.Slices
import Derived.WalkKit
import Derived.KernelRfl
import Derived.RowKit3
import Derived.Deep.LoopGhost
import Derived.Deep.QuietTactic
import Derived.BigQuiet
import Derived.WideLaws
import Derived.Deep.DeepCutAuto
import Derived.Deep.CutBlock
import Derived.Deep.RegionHeld3
import Derived.Laws.Rows
import Derived.Lib.AppendStr
import Derived.ArgAppend
import Derived.Laws.IdiomCopy
import Derived.OrdersHeld
import Derived.Laws.BitsLemmas
import Derived.RowKit
import Derived.StillTailTactics
import Derived.Test.YtefnpecncacepaaWWords
import Derived.Test.YtefnpecncacepaaWLast
import Derived.Test.YtefnpecncacepaaWMore
import Derived.Lib.Hide
import Derived.LaidEql
import Derived.Outline
import Derived.Deep.MidRow
import Derived.Deep.WholeRow
import Derived.Deep.RegionLaw
import Derived.Deep.DrawnRows
import Derived.Test.YtefnpecncacepaaBytes
import Derived.Test.YtefnpecncacepaaHInfo
namespace Go.Proofs.Ytefnpecncacepaa.Hand
open Go Go.RowKit Go.Proofs.Ytefnpecncacepaa.Plain Go.Proofs.Ytefnpecncacepaa.PAll Go.Proofs.YtefnpecncacepaaW.PrintWords Go.Proofs.YtefnpecncacepaaW.PrintLast Go.Proofs.YtefnpecncacepaaW.PrintMore
set_option linter.unusedVariables false
set_option linter.unusedSimpArgs false
set_option maxRecDepth 100000
attribute [local go_sem ↓] Go.wp_at_zero Go.wp_at_succ
theorem headB_len (v : Int) (p r : List Int) (t b n : Int) (hp : p.length = 32) (hr : r.length = 32) : (headB v p r t b n).length = 80 := by simp [headB, digs_length, hp, hr]
theorem headB_bytes (v : Int) {p r : List Int} (t b n : Int) (hp : ∀ x ∈ p, 0 ≤ x ∧ x < 256) (hr : ∀ x ∈ r, 0 ≤ x ∧ x < 256) : ∀ x ∈ headB v p r t b n, 0 ≤ x ∧ x < 256 := by
  intro x hx
  simp only [headB, List.mem_append] at hx
  rcases hx with (((h | h | h) | h) | h) | h
  · exact digs_bytes _ _ _ h
  · exact hp x h
  · exact hr x h
  · exact digs_bytes _ _ _ h
  · exact digs_bytes _ _ _ h
  · exact digs_bytes _ _ _ h
theorem hcells_one (v : Int) (p r : List Int) (t b n : Int) : (hcells v p r t b n).toArray.all (·.oneCell') = true := by
  refine all_oneCell_toArray fun x hx => ?_
  simp only [hcells, List.mem_cons, List.mem_append, List.mem_nil_iff, or_false] at hx
  rcases hx with rfl | h | h | rfl | rfl | rfl
  · rfl
  · exact nums_one _ _ x h
  · exact nums_one _ _ x h
  · rfl
  · rfl
  · rfl
end Go.Proofs.Ytefnpecncacepaa.Hand
