/- Memory in which all but one block, and the row that its first cell owns, stays as it was. -/
import Derived.Test.YtfcmdhimlfoofaaProg
import Derived.Below
import Derived.Deep.Draws
import Derived.Deep.AppendLies
import Derived.Maps.AppendAt
import Derived.OwnWalk
import Derived.Laws.BytesArg
import Derived.Laws.MakeOwn
import Derived.Laws.OwnMore
import Derived.Deep.OwnRows
import Derived.Tactics
import Derived.Lib.ConvBytes
import Derived.Laws.Slices
import Derived.WalkKit
import Derived.KernelRfl
import Derived.RowKit3
import Derived.Deep.LoopGhost
import Derived.Deep.QuietTactic
import Derived.BigQuiet
import Derived.WideLaws
import Derived.Deep.DeepCutAuto
import Derived.Deep.CutBlock
import Derived.Deep.RegionHeld3
import Derived.Laws.Rows
import Derived.Lib.AppendStr
import Derived.ArgAppend
import Derived.Laws.IdiomCopy
import Derived.OrdersHeld
import Derived.Laws.BitsLemmas
import Derived.RowKit
import Derived.StillTailTactics
import Derived.Test.YtfcmdhimlfoofaaWWords
import Derived.Test.YtfcmdhimlfoofaaWLast
import Derived.Test.YtfcmdhimlfoofaaWMore
namespace Go.Proofs.Ytfcmdhimlfoofaa.Hand
open Go Go.RowKit Go.Proofs.YtfcmdhimlfoofaaW.PrintWords Go.Proofs.YtfcmdhimlfoofaaW.PrintLast Go.Proofs.YtfcmdhimlfoofaaW.PrintMore
set_option linter.unusedVariables false
/-- The block of the row that the first cell of block g holds. -/
def rowAt (w : World) (g : Nat) : Option Nat := (w.cell? ⟨g, 0, none⟩).bind Value.ownBlock
theorem rowAt_of {w : World} {g : Nat} {v : Value} (h : w.cell? ⟨g, 0, none⟩ = some v) : rowAt w g = v.ownBlock := by unfold rowAt; rw [h]; rfl
/-- Every block but g and the row that it holds stays as it is; the row that it holds then is the same, or new. -/
def CKeep (w w' : World) (g : Nat) : Prop := w.heap.size ≤ w'.heap.size ∧ (∀ k, k < w.heap.size → k ≠ g → some k ≠ rowAt w g → w'.heap[k]? = w.heap[k]?) ∧ (rowAt w' g = rowAt w g ∨ ∀ k, rowAt w' g = some k → w.heap.size ≤ k)
theorem CKeep.refl (w : World) (g : Nat) : CKeep w w g := ⟨Nat.le_refl _, fun _ _ _ _ => rfl, .inl rfl⟩
theorem CKeep.trans {w w1 w2 : World} {g : Nat} (h : CKeep w w1 g) (h' : CKeep w1 w2 g) : CKeep w w2 g := by
  obtain ⟨a1, a2, a3⟩ := h
  obtain ⟨b1, b2, b3⟩ := h'
  refine ⟨by omega, fun k hk hg hr => ?_, ?_⟩
  · refine (b2 k (by omega) hg ?_).trans (a2 k hk hg hr)
    rcases a3 with a3 | a3
    · rw [a3]; exact hr
    · intro e
      have := a3 k e.symm
      omega
  · rcases b3 with b3 | b3
    · rw [b3]; exact a3
    · exact .inr fun k hk => by have := b3 k hk; omega
theorem CKeep.below {w w1 w2 : World} {g : Nat} (h : CKeep w w1 g) (hg : g < w.heap.size) (hb : Below w1.heap.size w1 w2) : CKeep w w2 g := by
  refine h.trans ⟨hb.size, fun k hk _ _ => hb.block k hk, .inl ?_⟩
  unfold rowAt
  rw [World.cell?_of_block (w := w1) (hb.block g (by have := h.1; omega))]
theorem CKeep.drew {w w1 : World} {g : Nat} (h : CKeep w w1 g) : CKeep w w1.drew g := h
theorem CKeep.drewN {w w1 : World} {g : Nat} (h : CKeep w w1 g) (n : Nat) : CKeep w (w1.drewN n) g := h
theorem CKeep.blk {w w1 : World} {g k : Nat} {o : Obj} (h : CKeep w w1 g) (hk : k ≠ g) (hr : some k ≠ rowAt w g) (hb : w.heap[k]? = some o) : w1.heap[k]? = some o := (h.2.1 k (blk_lt hb) hk hr).trans hb
theorem CKeep.cell {w w1 : World} {g : Nat} {a : Addr} {v : Value} (h : CKeep w w1 g) (hk : a.block ≠ g) (hr : some a.block ≠ rowAt w g) (hc : w.cell? a = some v) : w1.cell? a = some v := by
  rw [← hc]
  exact World.cell?_of_block (h.2.1 a.block (World.block_lt_of_cell? w a hc) hk hr)
/-- A row made since the writer's lies elsewhere. -/
theorem R_ckeep {w w1 : World} {g base : Nat} {ok : Nat → Prop} {v : Value} {xs : List Int} (hR : Kd.R (Kd.int .u8) 5 w base ok v xs) (h : CKeep w w1 g) (hg : g < base) (hr : ∀ k, rowAt w g = some k → k < base) : Kd.R (Kd.int .u8) 5 w1 base ok v xs := by
  have h1 := Kd.R_bound hR
  refine Kd.R_mono (Kd.R_step h1 (fun k hk hlt => h.2.1 k hlt ?_ ?_)) (fun k hk => hk.1)
  · have := hk.2.1
    omega
  · intro e
    have := hr k e.symm
    have := hk.2.1
    omega
/-- What lay there is read as before. -/
theorem bcell {W w1 : World} (hb : Below W.heap.size W w1) : (∀ b o, b < W.heap.size → w1.cell? ⟨b, o, none⟩ = W.cell? ⟨b, o, none⟩) ∧ (∀ b o, b < W.heap.size → w1.frozen? ⟨b, o, none⟩ = W.frozen? ⟨b, o, none⟩) :=
  ⟨fun b o h => hb.cell (p := ⟨b, o, none⟩) h, fun b o h => hb.frozen (p := ⟨b, o, none⟩) h⟩
theorem below_of_drew {w w1 : World} (h : Below w.drew.heap.size w.drew w1) : Below w.heap.size w w1 := (below_drew (Below.refl _ w)).trans h
end Go.Proofs.Ytfcmdhimlfoofaa.Hand
