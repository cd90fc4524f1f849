/- Regions inside a round of a range over a function: walked as anywhere. -/
import Derived.Test.YtlmcdkjobdcflaaDoorProg
import Derived.Below
import Derived.Deep.Draws
import Derived.Deep.AppendLies
import Derived.Maps.AppendAt
import Derived.OwnWalk
import Derived.Laws.BytesArg
import Derived.Laws.MakeOwn
import Derived.Laws.OwnMore
import Derived.Deep.OwnRows
import Derived.Tactics
import Derived.Lib.ConvBytes
import Derived.Laws.Slices
import Derived.WalkKit
import Derived.KernelRfl
import Derived.RowKit3
import Derived.Deep.LoopGhost
import Derived.Deep.QuietTactic
import Derived.BigQuiet
import Derived.WideLaws
import Derived.Deep.DeepCutAuto
import Derived.Deep.CutBlock
import Derived.Deep.RegionHeld3
import Derived.Laws.Rows
import Derived.Lib.AppendStr
import Derived.ArgAppend
import Derived.Laws.IdiomCopy
import Derived.OrdersHeld
import Derived.Laws.BitsLemmas
import Derived.RowKit
import Derived.StillTailTactics
import Derived.Test.YtlmcdkjobdcflaaDoorWWords
import Derived.Test.YtlmcdkjobdcflaaDoorWLast
import Derived.Test.YtlmcdkjobdcflaaDoorWMore
import Derived.RangeFuncCalls
import Derived.TacticsIn
import Derived.OrdersIn
import Derived.Test.YtlmcdkjobdcflaaDoorAnyInv
namespace Go.Proofs.YtlmcdkjobdcflaaDoor.Hand
open Go Go.RowKit
set_option linter.unusedVariables false
variable {P : Program} {Q : Exit → Act → World → Prop} {l n : Nat}
theorem opIn_of_wp {o : Oper} {a : Act} {w : World} {K : Act → World → Prop} (hd : ∀ c, o.op ≠ .defer c) (h : o.wp P a w K Q) : o.wpIn (Fence.wide.inRound l) n P a w K Q := by
  refine ⟨fun _ _ => trivial, ?_⟩
  rw [show Oper.semAt (Fence.wide.inRound l).round a.eval o = execOp a.eval o from Oper.semAt_eq _ _ _ hd]
  unfold Oper.wp at h
  generalize (execOp a.eval o).run P w = r at h ⊢
  cases r with
  | ok x w' =>
    cases x with
    | value v => exact h
    | skip => exact h
    | defer d => exact h
    | enter f args => exact ⟨(fun e => by cases e), callsIn_wide.2 h⟩
    | row r args =>
      refine ⟨(fun e => by cases e), fun c cs _ => ?_⟩
      obtain ⟨v, w2, hr, hs⟩ := h c cs
      exact ⟨v, w2, hr, stepsIn_wide.2 hs⟩
    | _ => exact h.elim
  | halt x w' =>
    cases x with
    | panic v => exact h
    | _ => exact h.elim
/-- No defer statement. -/
def noDefer (o : Oper) : Bool := match o.op with | .defer _ => false | _ => true
theorem noDefer_of {o : Oper} (h : noDefer o = true) : ∀ c, o.op ≠ .defer c := by
  intro c e
  unfold noDefer at h
  rw [e] at h
  cases h
theorem wpOpIn_of {ops : Array Oper} {i : Nat} {a : Act} {w : World} {K K' : Act → World → Prop} (hn : ops.toList.all noDefer = true) (hQ : ¬ LetsOut Q) (hK : ∀ a w, K a w → K' a w) (h : wpOp P ops Q i K a w) : wpOpIn (Fence.wide.inRound l) n P ops Q i K' a w := by
  unfold wpOp at h
  unfold wpOpIn
  cases ho : ops[i]? with
  | none =>
    rw [ho] at h
    exact hK _ _ h
  | some o =>
    rw [ho] at h
    simp only at h ⊢
    by_cases hw : Region.wanted o (yielded ops a.tmps) = true
    · rw [if_pos hw] at h ⊢
      have hm : o ∈ ops.toList := by
        obtain ⟨hl, e⟩ := Array.getElem?_eq_some_iff.1 ho
        rw [← e]
        exact Array.getElem_mem_toList hl
      exact Oper.wpIn_mono hK (opIn_of_wp (noDefer_of (List.all_eq_true.1 hn o hm)) (h.resolve_right (fun x => hQ x.2)))
    · rw [if_neg hw] at h ⊢
      exact ⟨fun _ _ => trivial, hK _ _ h⟩
theorem wpAnyIn_of {ops : Array Oper} (hn : ops.toList.all noDefer = true) (hQ : ¬ LetsOut Q) {md : Region.Mode} : ∀ (fuel : Nat) (listed : Array Bool) (a : Act) (w : World), wpAny P md ops Q fuel listed a w → wpAnyIn (Fence.wide.inRound l) n P md ops Q fuel listed a w
  | 0, _, _, _, h => h
  | fuel + 1, listed, a, w, h => ⟨h.1, fun i hi => wpOpIn_of hn hQ (fun a' w' h' => wpAnyIn_of hn hQ fuel _ a' w' h') (h.2 i hi)⟩
theorem wpListIn_of {ops : Array Oper} (hQ : ¬ LetsOut Q) : ∀ (L : List Oper) (a : Act) (w : World), L.all noDefer = true → wpList P ops Q L a w → wpListIn (Fence.wide.inRound l) n P ops Q L a w
  | [], _, _, _, h => h
  | o :: L, a, w, hn, h => by
    have hn1 : noDefer o = true ∧ L.all noDefer = true := by simpa using hn
    have ih : ∀ a' w', wpList P ops Q L a' w' → wpListIn (Fence.wide.inRound l) n P ops Q L a' w' := fun a' w' h' => wpListIn_of hQ L a' w' hn1.2 h'
    unfold wpList at h
    unfold wpListIn
    by_cases hw : Region.wanted o (yielded ops a.tmps) = true
    · rw [if_pos hw] at h ⊢
      exact Oper.wpIn_mono ih (opIn_of_wp (noDefer_of hn1.1) (h.resolve_right (fun x => hQ x.2)))
    · rw [if_neg hw] at h ⊢
      exact ⟨fun _ _ => trivial, ih _ _ h⟩
/-- A region that draws, in a round. -/
theorem wpIn_round_any {id : Nat} {ops : Array Oper} {a : Act} {w : World} (hm : P.follows .mixedOrders = true) (hn : ops.toList.all noDefer = true) (hQ : ¬ LetsOut Q)
    (h : wpAny P .any ops Q ops.size (Array.replicate ops.size false) a w.drew) : (Code.region id ops true).wpIn (Fence.wide.inRound l) n P Q a w :=
  wpIn_region_any hm (wpAnyIn_of hn hQ _ _ _ _ h)
/-- A region that doesn't. -/
theorem wpIn_round_list {id : Nat} {L : List Oper} {a : Act} {w : World} (hn : L.all noDefer = true) (hQ : ¬ LetsOut Q) (h : wpList P L.toArray Q L a w) : (Code.region id L.toArray false).wpIn (Fence.wide.inRound l) n P Q a w :=
  wpIn_region_lit (wpListIn_of hQ L a w hn h)
/-- Outside of any round. -/
theorem opIn_of_wp0 {o : Oper} {a : Act} {w : World} {K : Act → World → Prop} (h : o.wp P a w K Q) : o.wpIn Fence.wide n P a w K Q := by
  refine ⟨fun _ _ => trivial, ?_⟩
  rw [show Oper.semAt Fence.wide.round a.eval o = execOp a.eval o from rfl]
  unfold Oper.wp at h
  generalize (execOp a.eval o).run P w = r at h ⊢
  cases r with
  | ok x w' =>
    cases x with
    | value v => exact h
    | skip => exact h
    | defer d => exact h
    | enter f args => exact ⟨(fun e => by cases e), callsIn_wide.2 h⟩
    | row r args =>
      refine ⟨(fun e => by cases e), fun c cs _ => ?_⟩
      obtain ⟨v, w2, hr, hs⟩ := h c cs
      exact ⟨v, w2, hr, stepsIn_wide.2 hs⟩
    | _ => exact h.elim
  | halt x w' =>
    cases x with
    | panic v => exact h
    | _ => exact h.elim
theorem wpListIn_of0 {ops : Array Oper} (hQ : ¬ LetsOut Q) : ∀ (L : List Oper) (a : Act) (w : World), wpList P ops Q L a w → wpListIn Fence.wide n P ops Q L a w
  | [], _, _, h => h
  | o :: L, a, w, h => by
    have ih : ∀ a' w', wpList P ops Q L a' w' → wpListIn Fence.wide n P ops Q L a' w' := fun a' w' h' => wpListIn_of0 hQ L a' w' h'
    unfold wpList at h
    unfold wpListIn
    by_cases hw : Region.wanted o (yielded ops a.tmps) = true
    · rw [if_pos hw] at h ⊢
      exact Oper.wpIn_mono ih (opIn_of_wp0 (h.resolve_right (fun x => hQ x.2)))
    · rw [if_neg hw] at h ⊢
      exact ⟨fun _ _ => trivial, ih _ _ h⟩
end Go.Proofs.YtlmcdkjobdcflaaDoor.Hand
