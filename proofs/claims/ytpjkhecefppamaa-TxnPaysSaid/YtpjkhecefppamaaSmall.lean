/- The law's small answers. -/
import Derived.Test.YtpjkhecefppamaaProg
import Derived.Below
import Derived.Deep.Draws
import Derived.Deep.AppendLies
import Derived.Maps.AppendAt
import Derived.OwnWalk
import Derived.Laws.BytesArg
import Derived.Laws.MakeOwn
import Derived.Laws.OwnMore
import Derived.Deep.OwnRows
import Derived.Tactics
import Derived.Lib.ConvBytes
import Derived.Laws.Slices
import Derived.WalkKit
import Derived.KernelRfl
import Derived.RowKit3
import Derived.Deep.LoopGhost
import Derived.Deep.QuietTactic
import Derived.BigQuiet
import Derived.WideLaws
import Derived.Deep.DeepCutAuto
import Derived.Deep.CutBlock
import Derived.Deep.RegionHeld3
import Derived.Laws.Rows
import Derived.Lib.AppendStr
import Derived.ArgAppend
import Derived.Laws.IdiomCopy
import Derived.OrdersHeld
import Derived.Laws.BitsLemmas
import Derived.RowKit
import Derived.StillTailTactics
import Derived.Test.YtpjkhecefppamaaWWords
import Derived.Test.YtpjkhecefppamaaWLast
import Derived.Test.YtpjkhecefppamaaWMore
import Derived.Lib.Hide
import Derived.Test.YtpjkhecefppamaaMAlln2
import Derived.Test.YtpjkhecefppamaaTxnPlain
namespace Go.Proofs.Ytpjkhecefppamaa.Hand
open Go Go.RowKit Go.Proofs.Ytpjkhecefppamaa.Plain Go.Proofs.Ytpjkhecefppamaa.PAll Go.Proofs.YtpjkhecefppamaaW.PrintWords Go.Proofs.YtpjkhecefppamaaW.PrintLast Go.Proofs.YtpjkhecefppamaaW.PrintMore
set_option linter.unusedVariables false
set_option linter.unusedSimpArgs false
/-- May one be gone through? -/
def smallT (outs : List OutT) : Bool := decide (outs.length ≤ 20) && outs.all (fun o => decide (o.f1.length ≤ 200))
theorem small_tells (outs : List OutT) (hn : outs.length ≤ 20) : ∀ (m i k : Nat), i + m = outs.length → mastheadlaw14_small.l0 (m + 1 + k) outs (outs.length : Int) i = some ((outs.drop i).all (fun o => decide (o.f1.length ≤ 200)))
  | 0, i, k, h => by
    rw [show 0 + 1 + k = k + 1 by omega]
    unfold mastheadlaw14_small.l0
    rw [if_neg (by omega), List.drop_eq_nil_of_le (by omega)]
    rfl
  | m + 1, i, k, h => by
    rw [show m + 1 + 1 + k = (m + 1 + k) + 1 by omega]
    have hi : i < outs.length := by omega
    have hd : outs.drop i = outs[i] :: outs.drop (i + 1) := List.drop_eq_getElem_cons hi
    obtain ⟨hh, e⟩ := rd_out (outs := outs) (k := (i : Int)) (by omega) (by omega)
    unfold mastheadlaw14_small.l0
    rw [if_pos (by omega), if_pos (by omega), if_pos (by omega), e, show wrap64 ((i : Int) + 1) = ((i + 1 : Nat) : Int) from (wrap64_id (by omega) (by omega)).trans (by simp), hd, List.all_cons]
    simp only [Int.toNat_natCast]
    by_cases h2 : (200 : Int) < (outs[i].f1.length : Int)
    · rw [if_pos h2, decide_eq_false (by omega)]
      rfl
    · rw [if_neg (by omega), decide_eq_true (by omega), Bool.true_and]
      exact small_tells outs hn m (i + 1) k (by omega)
theorem small_f (salt : Int) (outs : List OutT) : mastheadlaw14_small.f 21 salt outs = some (smallT outs) := by
  unfold mastheadlaw14_small.f smallT
  by_cases h : 20 < outs.length
  · rw [if_pos (by omega), decide_eq_false (by omega)]
    rfl
  · rw [if_neg (by omega), decide_eq_true (by omega), Bool.true_and]
    have h1 := small_tells outs (by omega) outs.length 0 (20 - outs.length) (by omega)
    rw [show outs.length + 1 + (20 - outs.length) = 21 by omega] at h1
    exact h1
end Go.Proofs.Ytpjkhecefppamaa.Hand
