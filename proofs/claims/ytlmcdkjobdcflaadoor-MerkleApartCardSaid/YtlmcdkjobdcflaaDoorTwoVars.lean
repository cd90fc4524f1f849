/- Two variables that a region makes and sets in whatever order. -/
import Derived.Test.YtlmcdkjobdcflaaDoorProg
import Derived.Below
import Derived.Deep.Draws
import Derived.Deep.AppendLies
import Derived.Maps.AppendAt
import Derived.OwnWalk
import Derived.Laws.BytesArg
import Derived.Laws.MakeOwn
import Derived.Laws.OwnMore
import Derived.Deep.OwnRows
import Derived.Tactics
import Derived.Lib.ConvBytes
import Derived.Laws.Slices
import Derived.WalkKit
import Derived.KernelRfl
import Derived.RowKit3
import Derived.Deep.LoopGhost
import Derived.Deep.QuietTactic
import Derived.BigQuiet
import Derived.WideLaws
import Derived.Deep.DeepCutAuto
import Derived.Deep.CutBlock
import Derived.Deep.RegionHeld3
import Derived.Laws.Rows
import Derived.Lib.AppendStr
import Derived.ArgAppend
import Derived.Laws.IdiomCopy
import Derived.OrdersHeld
import Derived.Laws.BitsLemmas
import Derived.RowKit
import Derived.StillTailTactics
import Derived.Test.YtlmcdkjobdcflaaDoorWWords
import Derived.Test.YtlmcdkjobdcflaaDoorWLast
import Derived.Test.YtlmcdkjobdcflaaDoorWMore
import Derived.Lib.Hide
import Derived.Laws.CopyOwn
import Derived.Laws.Tables
import Derived.Test.YtlmcdkjobdcflaaDoorAnyInv
namespace Go.Proofs.YtlmcdkjobdcflaaDoor.Hand
open Go Go.RowKit Go.Proofs.YtlmcdkjobdcflaaDoorW.PrintWords Go.Proofs.YtlmcdkjobdcflaaDoorW.PrintLast Go.Proofs.YtlmcdkjobdcflaaDoorW.PrintMore
set_option linter.unusedVariables false
theorem below_setRow2 {B g : Nat} {w0 w : World} (h : Below B w0 w) (hg : B ≤ g) (cs : Array Value) : Below B w0 (w.setRow g cs) :=
  h.trans ⟨rfl, rfl, rfl, by rw [setRow_size]; exact Nat.le_refl _, fun k hk => setRow_other _ _ _ _ (by omega)⟩
theorem wp_alloc {P : Program} {o : Oper} {a : Act} {w : World} {K : Act → World → Prop} {Q : Exit → Act → World → Prop} (t : TypeId) (ho : o.op = .alloc t) (Z : Array Value) (hz : ∀ w, (zeroValue t).run P w = .ok (.agg Z) w)
    (h : K (a.put o.dst (.pointer (some ⟨w.heap.size, 0, none⟩))) (w.alloc (.cells Z t))) : o.wp P a w K Q := by
  unfold Oper.wp execOp
  simp only [ho]
  go_simp
  exact h
theorem act_put3 (a : Act) (s t : Tmp) (x y z : Value) (hst : s ≠ t) : ((a.put (some s) x).put (some t) y).put (some s) z = (a.put (some s) z).put (some t) y := by
  unfold Act.put
  simp only
  rw [Array.setIfInBounds_comm _ _ hst, Array.setIfInBounds_comm _ _ hst]
  simp
theorem act_put2 (a : Act) (s t : Tmp) (x y z : Value) : ((a.put (some s) x).put (some t) y).put (some t) z = (a.put (some s) x).put (some t) z := by
  unfold Act.put
  simp
/-- Two variables, made and set in whatever order: what has come up (made 1, made 2, set 1, set 2). -/
structure TV (T : TypeId) (n base : Nat) (C1 C2 : Array Value) (W0 : World) (m1 m2 s1 s2 : Bool) (v1 v2 : Value) (W : World) : Prop where
  below : Below base W0 W
  size : base ≤ W.heap.size
  one : m1 = true → ∃ g C, v1 = .pointer (some ⟨g, 0, none⟩) ∧ base ≤ g ∧ W.heap[g]? = some (.cells C T (0, 0)) ∧ C.size = n ∧ (s1 = true → C = C1)
  two : m2 = true → ∃ g C, v2 = .pointer (some ⟨g, 0, none⟩) ∧ base ≤ g ∧ W.heap[g]? = some (.cells C T (0, 0)) ∧ C.size = n ∧ (s2 = true → C = C2)
  apart : m1 = true → m2 = true → v1 ≠ v2
  set1 : s1 = true → m1 = true
  set2 : s2 = true → m2 = true
theorem TV.swap {T : TypeId} {n base : Nat} {C1 C2 : Array Value} {W0 W : World} {m1 m2 s1 s2 : Bool} {v1 v2 : Value} (h : TV T n base C1 C2 W0 m1 m2 s1 s2 v1 v2 W) : TV T n base C2 C1 W0 m2 m1 s2 s1 v2 v1 W :=
  ⟨h.below, h.size, h.two, h.one, fun a b e => h.apart b a e.symm, h.set2, h.set1⟩
theorem TV.make1 {T : TypeId} {n base : Nat} {C1 C2 Z : Array Value} {W0 W : World} {m2 s1 s2 : Bool} {v1 v2 : Value} (h : TV T n base C1 C2 W0 false m2 s1 s2 v1 v2 W) (hz : Z.size = n) : TV T n base C1 C2 W0 true m2 s1 s2 (.pointer (some ⟨W.heap.size, 0, none⟩)) v2 (W.alloc (.cells Z T)) := by
  have hs1 : s1 = false := by
    cases s1 with
    | false => rfl
    | true => exact absurd (h.set1 rfl) (by simp)
  subst hs1
  refine ⟨h.below.alloc h.size _, by (rw [World.size_alloc]; have := h.size; omega), fun _ => ⟨_, Z, rfl, h.size, heap_alloc_new W _, hz, (fun e => by cases e)⟩, fun hm => ?_, fun _ hm e => ?_, (fun e => by cases e), h.set2⟩
  · obtain ⟨g, C, e, hg, hC, r⟩ := h.two hm
    exact ⟨g, C, e, hg, blk_alloc hC _, r⟩
  · obtain ⟨g, C, e2, hg, hC, r⟩ := h.two hm
    rw [e2] at e
    have := blk_lt hC
    injection e with e
    injection e with e
    injection e with e
    omega
theorem TV.set1_ {T : TypeId} {n base : Nat} {C1 C2 : Array Value} {W0 W : World} {m2 s1 s2 : Bool} {v1 v2 : Value} (h : TV T n base C1 C2 W0 true m2 s1 s2 v1 v2 W) (hn : C1.size = n) : ∃ g C, v1 = .pointer (some ⟨g, 0, none⟩) ∧ W.heap[g]? = some (.cells C T (0, 0)) ∧ C.size = C1.size ∧ TV T n base C1 C2 W0 true m2 true s2 v1 v2 (W.setRow g C1) := by
  obtain ⟨g, C, e, hg, hC, hs, r⟩ := h.one rfl
  refine ⟨g, C, e, hC, by rw [hs, hn], below_setRow2 h.below hg _, by (rw [setRow_size]; exact h.size), fun _ => ⟨g, C1, e, hg, setRow_heap _ _ _ _ _ _ hC, hn, fun _ => rfl⟩, fun hm => ?_, h.apart, fun _ => rfl, h.set2⟩
  obtain ⟨g2, D, e2, hg2, hD, r2⟩ := h.two hm
  have hne : g2 ≠ g := by
    intro e3
    exact h.apart rfl hm (by rw [e, e2, e3])
  exact ⟨g2, D, e2, hg2, by rw [setRow_other _ _ _ _ hne]; exact hD, r2⟩
end Go.Proofs.YtlmcdkjobdcflaaDoor.Hand
