/- A region that draws its order, by an invariant: each operation walked once, whenever it comes. -/
import Derived.Test.YtlmcdkjobdcflaaDoorProg
import Derived.Below
import Derived.Deep.Draws
import Derived.Deep.AppendLies
import Derived.Maps.AppendAt
import Derived.OwnWalk
import Derived.Laws.BytesArg
import Derived.Laws.MakeOwn
import Derived.Laws.OwnMore
import Derived.Deep.OwnRows
import Derived.Tactics
import Derived.Lib.ConvBytes
import Derived.Laws.Slices
import Derived.WalkKit
import Derived.KernelRfl
import Derived.RowKit3
import Derived.Deep.LoopGhost
import Derived.Deep.QuietTactic
import Derived.BigQuiet
import Derived.WideLaws
import Derived.Deep.DeepCutAuto
import Derived.Deep.CutBlock
import Derived.Deep.RegionHeld3
import Derived.Laws.Rows
import Derived.Lib.AppendStr
import Derived.ArgAppend
import Derived.Laws.IdiomCopy
import Derived.OrdersHeld
import Derived.Laws.BitsLemmas
import Derived.RowKit
import Derived.StillTailTactics
import Derived.Test.YtlmcdkjobdcflaaDoorWWords
import Derived.Test.YtlmcdkjobdcflaaDoorWLast
import Derived.Test.YtlmcdkjobdcflaaDoorWMore
import Derived.Lib.Hide
import Derived.Orders
import Derived.OrdersHeld
namespace Go.Proofs.YtlmcdkjobdcflaaDoor.Hand
open Go
set_option linter.unusedVariables false
theorem count_set {l : List Bool} : ∀ {i : Nat}, l.getD i true = false → (l.set i true).countP (fun x => !x) + 1 = l.countP (fun x => !x) := by
  induction l with
  | nil => intro i h; simp at h
  | cons b l ih =>
    intro i h
    cases i with
    | zero =>
      obtain rfl : b = false := by simpa using h
      simp
    | succ i =>
      have h2 := ih (i := i) (by simpa using h)
      simp only [List.set_cons_succ, List.countP_cons]
      omega
theorem ready_unlisted {md : Region.Mode} {ops : Array Oper} {listed : Array Bool} {i : Nat} (h : i ∈ Region.ready md ops listed) : listed.toList.getD i true = false := by
  unfold Region.ready at h
  have h2 := (List.mem_filter.1 h).2
  simp only [Bool.and_eq_true, Bool.not_eq_true'] at h2
  rw [← h2.1]
  simp [Array.getD_eq_getD_getElem?, List.getD_eq_getElem?_getD]
theorem wpAny_inv {P : Program} {md : Region.Mode} {ops : Array Oper} {Q : Exit → Act → World → Prop} (I : Array Bool → Act → World → Prop)
    (hend : ∀ listed a w, I listed a w → Region.ready md ops listed = [] → Q .normal a w)
    (hstep : ∀ listed a w i, I listed a w → i ∈ Region.ready md ops listed → wpOp P ops Q i (I (listed.setIfInBounds i true)) a w) :
    ∀ fuel listed a w, listed.toList.countP (fun x => !x) ≤ fuel → I listed a w → wpAny P md ops Q fuel listed a w := by
  intro fuel
  induction fuel with
  | zero =>
    intro listed a w hc hI
    have hr : Region.ready md ops listed = [] := by
      apply List.eq_nil_iff_forall_not_mem.2
      intro i hi
      have := count_set (ready_unlisted hi)
      omega
    exact ⟨hr, hend listed a w hI hr⟩
  | succ fuel ih =>
    intro listed a w hc hI
    refine ⟨hend listed a w hI, fun i hi => ?_⟩
    have hs := hstep listed a w i hI hi
    have hc2 := count_set (ready_unlisted hi)
    have hle : (listed.setIfInBounds i true).toList.countP (fun x => !x) ≤ fuel := by
      rw [Array.toList_setIfInBounds]
      omega
    unfold wpOp at hs ⊢
    cases ho : ops[i]? with
    | none =>
      rw [ho] at hs
      exact ih _ _ _ hle hs
    | some o =>
      rw [ho] at hs
      simp only at hs ⊢
      by_cases hw : Region.wanted o (yielded ops a.tmps) = true
      · rw [if_pos hw] at hs ⊢
        rcases hs with hs | hs
        · exact .inl (Oper.wp_mono (fun a' w' h => ih _ a' w' hle h) hs)
        · exact .inr hs
      · rw [if_neg hw] at hs ⊢
        exact ih _ _ _ hle hs
/-- The same where a condition S is held (loads taken first). -/
theorem wpAnyH_inv {P : Program} {md : Region.Mode} {ops : Array Oper} {Q : Exit → Act → World → Prop} {S : World → Prop} (I : Array Bool → Act → World → Prop)
    (hS : ∀ listed a w, I listed a w → S w)
    (hend : ∀ listed a w, I listed a w → Region.ready md ops listed = [] → Q .normal a w)
    (hstep : ∀ listed a w i, I listed a w → i ∈ Region.ready md ops listed → wpOp P ops Q i (I (listed.setIfInBounds i true)) a w) :
    ∀ fuel listed a w, listed.toList.countP (fun x => !x) ≤ fuel → I listed a w → wpAnyH P md ops Q S fuel listed a w := by
  intro fuel
  induction fuel with
  | zero =>
    intro listed a w hc hI
    have hr : Region.ready md ops listed = [] := by
      apply List.eq_nil_iff_forall_not_mem.2
      intro i hi
      have := count_set (ready_unlisted hi)
      omega
    exact ⟨hr, hend listed a w hI hr⟩
  | succ fuel ih =>
    intro listed a w hc hI
    refine ⟨hend listed a w hI, fun i hi => ?_⟩
    have hs := hstep listed a w i hI hi
    have hc2 := count_set (ready_unlisted hi)
    have hle : (listed.setIfInBounds i true).toList.countP (fun x => !x) ≤ fuel := by
      rw [Array.toList_setIfInBounds]
      omega
    exact wpOp_mono (fun a' w' h => ⟨hS _ _ _ h, ih _ a' w' hle h⟩) hs
/-- What has come up, told by the numbers; what those that may come up wait for. -/
theorem ready_lt {md : Region.Mode} {ops : Array Oper} {listed : Array Bool} {i : Nat} (h : i ∈ Region.ready md ops listed) : i < ops.size ∧ listed.getD i true = false := by
  unfold Region.ready at h
  obtain ⟨h1, h2⟩ := List.mem_filter.1 h
  simp only [Bool.and_eq_true, Bool.not_eq_true'] at h2
  exact ⟨by simpa using h1, h2.1⟩
theorem ready_of {md : Region.Mode} {ops : Array Oper} {listed : Array Bool} {j : Nat} {o : Oper} (hr : Region.ready md ops listed = []) (ho : ops[j]? = some o) (hj : j < listed.size) (L : List Nat) (hL : ∀ k, L.contains k = true → listed.getD k false = true) (hb : (o.after.toList.all fun e => !(Region.binds md e) || L.contains e.on) = true) : listed.getD j false = true := by
  cases hl : listed.getD j false with
  | true => rfl
  | false =>
    have : j ∈ Region.ready md ops listed := by
      refine mem_ready.2 ⟨?_, o, ho, fun e he hbe => hL _ ?_⟩
      · rw [Array.getD_eq_getD_getElem?, Array.getElem?_eq_getElem hj] at hl ⊢
        exact hl
      · have h := List.all_eq_true.1 hb e (by simpa using he)
        rw [hbe] at h
        simpa using h
    rw [hr] at this
    cases this
theorem waits_of {md : Region.Mode} {ops : Array Oper} {listed : Array Bool} {j : Nat} {o : Oper} (hr : j ∈ Region.ready md ops listed) (ho : ops[j]? = some o) (k : Nat) (hb : (o.after.toList.any fun e => Region.binds md e && e.on == k) = true) : listed.getD k false = true := by
  obtain ⟨_, o', ho', h⟩ := mem_ready.1 hr
  obtain rfl : o = o' := by rw [ho] at ho'; exact Option.some.inj ho'
  obtain ⟨e, he, h2⟩ := List.any_eq_true.1 hb
  simp only [Bool.and_eq_true, beq_iff_eq] at h2
  have := h e (by simpa using he) h2.1
  rwa [h2.2] at this
theorem unlisted_of {md : Region.Mode} {ops : Array Oper} {listed : Array Bool} {j : Nat} (hr : j ∈ Region.ready md ops listed) : listed.getD j false = false := by
  have h := (ready_lt hr).2
  rw [Array.getD_eq_getD_getElem?] at h ⊢
  cases hx : listed[j]? with
  | none => rfl
  | some b => rw [hx] at h; exact h
theorem listed_set {listed : Array Bool} {i k : Nat} (hi : i < listed.size) : (listed.setIfInBounds i true).getD k false = if k = i then true else listed.getD k false := by
  rw [Array.getD_eq_getD_getElem?, Array.getElem?_setIfInBounds]
  by_cases h : i = k
  · subst h
    simp [hi]
  · rw [if_neg h, if_neg (Ne.symm h), Array.getD_eq_getD_getElem?]
theorem wpAnyH_act {P : Program} {md : Region.Mode} {ops : Array Oper} {Q : Exit → Act → World → Prop} {S : World → Prop} {fuel : Nat} {listed : Array Bool} {a : Act} {w : World} (h : ∀ a0, a0 = a → wpAnyH P md ops Q S fuel listed a0 w) : wpAnyH P md ops Q S fuel listed a w := h a rfl
theorem wpOp_of {P : Program} {ops : Array Oper} {Q : Exit → Act → World → Prop} {i : Nat} {o : Oper} {K : Act → World → Prop} {a : Act} {w : World} (ho : ops[i]? = some o) (hg : o.guard = none) (h : o.wp P a w K Q) : wpOp P ops Q i K a w := by
  unfold wpOp
  rw [ho]
  simp only [Region.wanted, hg, if_true]
  exact .inl h
end Go.Proofs.YtlmcdkjobdcflaaDoor.Hand
