/- A branch made anew, its path a copy and one hash more: in whatever order its parts come up. -/
import Derived.Test.YtlmcdkjobdcflaaDoorProg
import Derived.Below
import Derived.Deep.Draws
import Derived.Deep.AppendLies
import Derived.Maps.AppendAt
import Derived.OwnWalk
import Derived.Laws.BytesArg
import Derived.Laws.MakeOwn
import Derived.Laws.OwnMore
import Derived.Deep.OwnRows
import Derived.Tactics
import Derived.Lib.ConvBytes
import Derived.Laws.Slices
import Derived.WalkKit
import Derived.KernelRfl
import Derived.RowKit3
import Derived.Deep.LoopGhost
import Derived.Deep.QuietTactic
import Derived.BigQuiet
import Derived.WideLaws
import Derived.Deep.DeepCutAuto
import Derived.Deep.CutBlock
import Derived.Deep.RegionHeld3
import Derived.Laws.Rows
import Derived.Lib.AppendStr
import Derived.ArgAppend
import Derived.Laws.IdiomCopy
import Derived.OrdersHeld
import Derived.Laws.BitsLemmas
import Derived.RowKit
import Derived.StillTailTactics
import Derived.Test.YtlmcdkjobdcflaaDoorWWords
import Derived.Test.YtlmcdkjobdcflaaDoorWLast
import Derived.Test.YtlmcdkjobdcflaaDoorWMore
import Derived.Lib.Hide
import Derived.Outline
import Derived.Deep.MidRow
import Derived.Deep.WholeRow
import Derived.Deep.DrawnRows
import Derived.Test.YtlmcdkjobdcflaaDoorBranA
import Derived.Test.YtlmcdkjobdcflaaDoorMerkC
namespace Go.Proofs.YtlmcdkjobdcflaaDoor.Hand
open Go Go.RowKit Go.Proofs.YtlmcdkjobdcflaaDoor.Plain Go.Proofs.YtlmcdkjobdcflaaDoor.PAll Go.Proofs.YtlmcdkjobdcflaaDoorW.PrintWords Go.Proofs.YtlmcdkjobdcflaaDoorW.PrintLast Go.Proofs.YtlmcdkjobdcflaaDoorW.PrintMore
set_option linter.unusedVariables false
set_option linter.unusedSimpArgs false
theorem put_comm (a : Act) {s t : Tmp} (h : s ≠ t) (x y : Value) : (a.put (some s) x).put (some t) y = (a.put (some t) y).put (some s) x := by
  unfold Act.put
  simp only
  rw [Array.setIfInBounds_comm _ _ h]
theorem put_same (a : Act) (s : Tmp) (x y : Value) : (a.put (some s) x).put (some s) y = a.put (some s) y := by
  unfold Act.put
  simp
theorem eval_same (a : Act) (s : Tmp) (x : Value) (h : s < a.tmps.size) : (a.put (some s) x).eval (.tmp s) = x := by
  simp [Act.put, Act.eval, h]
theorem eval_other (a : Act) {s t : Tmp} (hne : s ≠ t) (x : Value) : (a.put (some s) x).eval (.tmp t) = a.eval (.tmp t) := by
  simp [Act.put, Act.eval, hne]
theorem put_size (a : Act) (s : Tmp) (x : Value) : (a.put (some s) x).tmps.size = a.tmps.size := by
  simp [Act.put]
theorem ne_ty : ∀ q, q ∈ 25 :: kH.E → q ≠ 41 := by decide
/-- What has come up: b4 the empty row, b7 the copy, b9 the hash's own row, b10 the longer copy, b12 the new branch, b13 it is set. -/
structure TL (W0 : World) (path : List (List Int)) (h : List Int) (F : Value → Array Value) (b4 b7 b9 b10 b12 b13 : Bool) (x39 x42 x44 x45 x9 : Value) (W : World) : Prop where
  below : Below W0.heap.size W0 W
  r39 : b4 = true → b7 = false → Kd.R kH 25 W W0.heap.size (fun _ => True) x39 []
  r42 : b7 = true → b10 = false → Kd.R kH 25 W W0.heap.size (fun _ => True) x42 path
  r44 : b9 = true → b10 = false → ∃ g, x44 = .slice (some ⟨g, 0, none⟩) 1 1 ∧ W.heap[g]? = some (.cells (nums .u8 h).toArray 25 (0, 0)) ∧ (b4 = true → b7 = false → some g ≠ x39.ownBlock) ∧ (b7 = true → some g ≠ x42.ownBlock)
  r45 : b10 = true → Kd.R kH 25 W W0.heap.size (fun _ => True) x45 (path ++ [h])
  r9 : b12 = true → ∃ g cs, x9 = .pointer (some ⟨g, 0, none⟩) ∧ W0.heap.size ≤ g ∧ W.heap[g]? = some (.cells cs 41 (0, 0)) ∧ cs.size = 3 ∧ (b13 = true → cs = F x45)
section
variable {W0 W W1 : World} {path : List (List Int)} {h : List Int} {F : Value → Array Value} {b4 b7 b9 b10 b12 b13 : Bool} {x39 x42 x44 x45 x9 : Value}
theorem TL.s4 (t : TL W0 path h F false false b9 false b12 false x39 x42 x44 x45 x9 W) : TL W0 path h F true false b9 false b12 false (.slice (some ⟨W.heap.size, 0, none⟩) 0 0) x42 x44 x45 x9 (W.alloc (.cells #[] 25)) where
  below := t.below.alloc t.below.size _
  r39 := fun _ _ => empty_row W0 W t.below.size
  r42 := fun e => by cases e
  r44 := fun e e2 => by
    obtain ⟨g, h1, h2, _, _⟩ := t.r44 e e2
    have h3 := blk_lt h2
    exact ⟨g, h1, blk_alloc h2 _, fun _ _ => ne_own (by omega), fun e => by cases e⟩
  r45 := fun e => by cases e
  r9 := fun e => by
    obtain ⟨g, cs, h1, h2, h3, h4, _⟩ := t.r9 e
    exact ⟨g, cs, h1, h2, blk_alloc h3 _, h4, fun e => by cases e⟩
theorem TL.s9 (t : TL W0 path h F b4 b7 false false b12 false x39 x42 x44 x45 x9 W) : TL W0 path h F b4 b7 true false b12 false x39 x42 (.slice (some ⟨W.heap.size, 0, none⟩) 1 1) x45 x9 (W.alloc (.cells (nums .u8 h).toArray 25)) where
  below := t.below.alloc t.below.size _
  r39 := fun e e2 => Kd.R_alloc (t.r39 e e2) _
  r42 := fun e e2 => Kd.R_alloc (t.r42 e e2) _
  r44 := fun _ _ => ⟨_, rfl, heap_alloc_new W _, fun e e2 e3 => by
    have := Kd.R_lt (t.r39 e e2) _ e3.symm
    omega, fun e e3 => by
    have := Kd.R_lt (t.r42 e rfl) _ e3.symm
    omega⟩
  r45 := fun e => by cases e
  r9 := fun e => by
    obtain ⟨g, cs, h1, h2, h3, h4, _⟩ := t.r9 e
    exact ⟨g, cs, h1, h2, blk_alloc h3 _, h4, fun e => by cases e⟩
theorem TL.s12 {cs : Array Value} (hcs : cs.size = 3) (t : TL W0 path h F b4 b7 b9 b10 false false x39 x42 x44 x45 x9 W) : TL W0 path h F b4 b7 b9 b10 true false x39 x42 x44 x45 (.pointer (some ⟨W.heap.size, 0, none⟩)) (W.alloc (.cells cs 41)) where
  below := t.below.alloc t.below.size _
  r39 := fun e e2 => Kd.R_alloc (t.r39 e e2) _
  r42 := fun e e2 => Kd.R_alloc (t.r42 e e2) _
  r44 := fun e e2 => by
    obtain ⟨g, h1, h2, h3, h4⟩ := t.r44 e e2
    exact ⟨g, h1, blk_alloc h2 _, h3, h4⟩
  r45 := fun e => Kd.R_alloc (t.r45 e) _
  r9 := fun _ => ⟨_, cs, rfl, t.below.size, heap_alloc_new W _, hcs, fun e => by cases e⟩
theorem TL.s7 (t : TL W0 path h F true false b9 false b12 false x39 x42 x44 x45 x9 W) {v : Value} (ho : Kd.R kH 25 W1 W0.heap.size (fun _ => True) v ([] ++ path)) (hb : Below W0.heap.size W0 W1) (hg : W.grownBy W1 x39.ownBlock) (hat : v.ownBlock = x39.ownBlock ∨ ∃ b, v.ownBlock = some b ∧ W.heap.size ≤ b) :
    TL W0 path h F true true b9 false b12 false x39 v x44 x45 x9 W1 where
  below := hb
  r39 := fun _ e => by cases e
  r42 := fun _ _ => by simpa using ho
  r44 := fun e e2 => by
    obtain ⟨g, h1, h2, h3, _⟩ := t.r44 e e2
    have hl := blk_lt h2
    refine ⟨g, h1, grown_blk hg h2 (h3 rfl rfl), fun _ e => absurd e (by decide), fun _ e => ?_⟩
    rcases hat with h4 | ⟨b, h4, h5⟩
    · rw [h4] at e
      exact h3 rfl rfl e
    · rw [h4] at e
      injection e with e
      omega
  r45 := fun e => by cases e
  r9 := fun e => by
    obtain ⟨g, cs, h1, h2, h3, h4, _⟩ := t.r9 e
    exact ⟨g, cs, h1, h2, grown_blk hg h3 (Kd.R_ne (t.r39 rfl rfl) h3 (by decide)), h4, fun e => by cases e⟩
theorem TL.s10 (t : TL W0 path h F b4 true b9 false b12 false x39 x42 x44 x45 x9 W) {v : Value} (ho : Kd.R kH 25 W1 W0.heap.size (fun _ => True) v (path ++ [h])) (hb : Below W0.heap.size W0 W1) (hg : W.grownBy W1 x42.ownBlock) :
    TL W0 path h F b4 true b9 true b12 false x39 x42 x44 v x9 W1 where
  below := hb
  r39 := fun _ e => by cases e
  r42 := fun _ e => by cases e
  r44 := fun _ e => by cases e
  r45 := fun _ => ho
  r9 := fun e => by
    obtain ⟨g, cs, h1, h2, h3, h4, _⟩ := t.r9 e
    exact ⟨g, cs, h1, h2, grown_blk hg h3 (Kd.R_ne (t.r42 rfl rfl) h3 (by decide)), h4, fun e => by cases e⟩
theorem TL.s13 (t : TL W0 path h F b4 b7 b9 true b12 false x39 x42 x44 x45 x9 W) {g : Nat} {cs : Array Value} (h1 : x9 = .pointer (some ⟨g, 0, none⟩)) (h2 : W0.heap.size ≤ g) (h3 : W.heap[g]? = some (.cells cs 41 (0, 0))) (hF : (F x45).size = 3) (e7 : b7 = true) :
    TL W0 path h F b4 b7 b9 true true true x39 x42 x44 x45 x9 (W.setRow g (F x45)) where
  below := below_setRow t.below h2 _
  r39 := fun _ e => by rw [e7] at e; cases e
  r42 := fun _ e => by cases e
  r44 := fun _ e => by cases e
  r45 := fun _ => Kd.R_mono (Kd.R_step (Kd.R_types (t.r45 rfl) h3 ne_ty) (fun k hk _ => setRow_other _ _ _ _ hk.2)) (fun _ _ => trivial)
  r9 := fun _ => ⟨g, _, h1, h2, setRow_heap _ _ _ _ _ _ h3, hF, fun _ => rfl⟩
end
end Go.Proofs.YtlmcdkjobdcflaaDoor.Hand
