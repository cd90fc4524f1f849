/- The document's functions of the codec beside the reader's place. -/
import Derived.Test.YtpjkhecefppamaaProg
import Derived.Below
import Derived.Deep.Draws
import Derived.Deep.AppendLies
import Derived.Maps.AppendAt
import Derived.OwnWalk
import Derived.Laws.BytesArg
import Derived.Laws.MakeOwn
import Derived.Laws.OwnMore
import Derived.Deep.OwnRows
import Derived.Tactics
import Derived.Lib.ConvBytes
import Derived.Laws.Slices
import Derived.WalkKit
import Derived.KernelRfl
import Derived.RowKit3
import Derived.Deep.LoopGhost
import Derived.Deep.QuietTactic
import Derived.BigQuiet
import Derived.WideLaws
import Derived.Deep.DeepCutAuto
import Derived.Deep.CutBlock
import Derived.Deep.RegionHeld3
import Derived.Laws.Rows
import Derived.Lib.AppendStr
import Derived.ArgAppend
import Derived.Laws.IdiomCopy
import Derived.OrdersHeld
import Derived.Laws.BitsLemmas
import Derived.RowKit
import Derived.StillTailTactics
import Derived.Test.YtpjkhecefppamaaWWords
import Derived.Test.YtpjkhecefppamaaWLast
import Derived.Test.YtpjkhecefppamaaWMore
import Derived.Lib.Hide
import Derived.Test.YtpjkhecefppamaaRefWords
import Derived.Test.YtpjkhecefppamaaReader2
namespace Go.Proofs.Ytpjkhecefppamaa.Hand
open Go Go.RowKit Go.Proofs.Ytpjkhecefppamaa.Plain Go.Proofs.Ytpjkhecefppamaa.PAll Go.Proofs.YtpjkhecefppamaaW.PrintWords Go.Proofs.YtpjkhecefppamaaW.PrintLast Go.Proofs.YtpjkhecefppamaaW.PrintMore
set_option linter.unusedVariables false
set_option linter.unusedSimpArgs false
theorem numR_drop (bs : List Int) (p : Nat) (hp : p ≤ bs.length) (e a : Int) : numR bs p e a = ((numR (bs.drop p) 0 e a).1, p + (numR (bs.drop p) 0 e a).2.1, (numR (bs.drop p) 0 e a).2.2) := by
  unfold numR
  rw [takeR_drop bs p hp]
theorem varR_drop (bs : List Int) (p : Nat) (hp : p ≤ bs.length) (e m : Int) : varR bs p e m = ((varR (bs.drop p) 0 e m).1, p + (varR (bs.drop p) 0 e m).2.1, (varR (bs.drop p) 0 e m).2.2) := by
  by_cases he : e = 0
  · subst he
    rw [varR_count bs p hp, varR_count (bs.drop p) 0 (Nat.zero_le _)]
    simp
  · rw [varR_e he, varR_e he]
    rfl
theorem textR_drop (bs : List Int) (p : Nat) (hp : p ≤ bs.length) (e m : Int) : textR bs p e m = ((textR (bs.drop p) 0 e m).1, p + (textR (bs.drop p) 0 e m).2.1, (textR (bs.drop p) 0 e m).2.2) := by
  unfold textR
  have hl := varR_le (bs := bs.drop p) (p := 0) (Nat.zero_le _) e (mx m 0)
  rw [varR_drop bs p hp]
  simp only
  generalize varR (bs.drop p) 0 e (mx m 0) = v at hl ⊢
  rw [takeR_drop bs (p + v.2.1) (by rw [List.length_drop] at hl; omega), takeR_drop (bs.drop p) v.2.1 hl]
  rw [List.drop_drop]
  unfold text2
  simp only
  split
  · rfl
  · simp only [Prod.mk.injEq, true_and, and_true]
    omega
section
variable (bs : List Int) (p : Nat) (hp : p ≤ bs.length) (e a : Int) (hl : bs.length ≤ 1000000) (hb : ∀ x ∈ bs, 0 ≤ x ∧ x < 256) (w : World)
include hp hl
theorem rtake_at : Calls Try.prog 42 #[.agg #[.string (strOfNums (bs.drop p)), .int .i64 e], .int .i64 a] w fun x w' => x = .returned (.tuple #[.agg #[.string (strOfNums (bs.drop (takeR bs p e a).2.1)), .int .i64 (takeR bs p e a).2.2], .string (strOfNums (takeR bs p e a).1)]) ∧ Below w.heap.size w w' := by
  have h := rtake_calls (bs.drop p) e a (by simp; omega) w
  rw [List.drop_drop] at h
  rw [takeR_drop bs p hp]
  exact h
include hb
theorem rnumber_at : Calls Try.prog 27 #[.agg #[.string (strOfNums (bs.drop p)), .int .i64 e], .int .i64 a] w fun x w' => x = .returned (.tuple #[.agg #[.string (strOfNums (bs.drop (numR bs p e a).2.1)), .int .i64 (numR bs p e a).2.2], .int .u64 (numR bs p e a).1]) ∧ Below w.heap.size w w' := by
  have h := rnumber_calls (bs.drop p) e a (by simp; omega) (fun x hx => hb x (List.mem_of_mem_drop hx)) w
  rw [List.drop_drop] at h
  rw [numR_drop bs p hp]
  exact h
theorem rcount_at : Calls Try.prog 28 #[.agg #[.string (strOfNums (bs.drop p)), .int .i64 e], .int .u64 a] w fun x w' => x = .returned (.tuple #[.agg #[.string (strOfNums (bs.drop (varR bs p e a).2.1)), .int .i64 (varR bs p e a).2.2], .int .u64 (varR bs p e a).1]) ∧ Below w.heap.size w w' := by
  have h := rcount_calls (bs.drop p) e a (by simp; omega) (fun x hx => hb x (List.mem_of_mem_drop hx)) w
  rw [List.drop_drop] at h
  rw [varR_drop bs p hp]
  exact h
theorem rwords_at (ha : a ≤ 9223372036854775807) : Calls Try.prog 29 #[.agg #[.string (strOfNums (bs.drop p)), .int .i64 e], .int .i64 a] w fun x w' => x = .returned (.tuple #[.agg #[.string (strOfNums (bs.drop (textR bs p e a).2.1)), .int .i64 (textR bs p e a).2.2], .string (strOfNums (textR bs p e a).1)]) ∧ Below w.heap.size w w' := by
  have h := rwords_calls (bs.drop p) e a (by simp; omega) (fun x hx => hb x (List.mem_of_mem_drop hx)) ha w
  rw [List.drop_drop] at h
  rw [textR_drop bs p hp]
  exact h
end
theorem RKeep.setNew {w w1 : World} {B g k : Nat} (h : RKeep w w1 B g) (hk : w.heap.size ≤ k) (hB : B ≤ k) (j : Nat) (v : Value) : RKeep w (w1.setCell ⟨k, j, none⟩ v) B g :=
  ⟨h.1.setCell (p := ⟨k, j, none⟩) hB v, by rw [World.size_setCell]; exact h.2.1, fun i hi hg hr => (Below.heap_setCell w1 ⟨k, j, none⟩ v i (by show i ≠ k; omega)).trans (h.2.2 i hi hg hr)⟩
theorem IsR.setNew {w : World} {B g k : Nat} {bs : List Int} {p e : Int} (h : IsR w B g bs p e) (hk : g < k) (j : Nat) (v : Value) : IsR (w.setCell ⟨k, j, none⟩ v) B g bs p e :=
  h.below (B' := k) ((Below.refl k w).setCell (p := ⟨k, j, none⟩) (Nat.le_refl _) v) hk
end Go.Proofs.Ytpjkhecefppamaa.Hand
