/- What a transaction's parsing answers: plain. -/
import Derived.Test.YtpjkhecefppamaaProg
import Derived.Below
import Derived.Deep.Draws
import Derived.Deep.AppendLies
import Derived.Maps.AppendAt
import Derived.OwnWalk
import Derived.Laws.BytesArg
import Derived.Laws.MakeOwn
import Derived.Laws.OwnMore
import Derived.Deep.OwnRows
import Derived.Tactics
import Derived.Lib.ConvBytes
import Derived.Laws.Slices
import Derived.WalkKit
import Derived.KernelRfl
import Derived.RowKit3
import Derived.Deep.LoopGhost
import Derived.Deep.QuietTactic
import Derived.BigQuiet
import Derived.WideLaws
import Derived.Deep.DeepCutAuto
import Derived.Deep.CutBlock
import Derived.Deep.RegionHeld3
import Derived.Laws.Rows
import Derived.Lib.AppendStr
import Derived.ArgAppend
import Derived.Laws.IdiomCopy
import Derived.OrdersHeld
import Derived.Laws.BitsLemmas
import Derived.RowKit
import Derived.StillTailTactics
import Derived.Test.YtpjkhecefppamaaWWords
import Derived.Test.YtpjkhecefppamaaWLast
import Derived.Test.YtpjkhecefppamaaWMore
import Derived.Lib.Hide
import Derived.Test.YtpjkhecefppamaaTxnPlain
import Derived.Test.YtpjkhecefppamaaReader2
namespace Go.Proofs.Ytpjkhecefppamaa.Hand
open Go Go.RowKit Go.Proofs.Ytpjkhecefppamaa.Plain Go.Proofs.Ytpjkhecefppamaa.PAll Go.Proofs.YtpjkhecefppamaaW.PrintWords Go.Proofs.YtpjkhecefppamaaW.PrintLast Go.Proofs.YtpjkhecefppamaaW.PrintMore
set_option linter.unusedVariables false
set_option linter.unusedSimpArgs false
/-- So many outputs from a place on. -/
def outsR (bs : List Int) : Nat → Nat → Int → List OutT × Nat × Int
  | 0, p, e => ([], p, e)
  | n + 1, p, e => (⟨(numR bs p e 8).1, (textR bs (numR bs p e 8).2.1 (numR bs p e 8).2.2 64).1⟩ :: (outsR bs n (textR bs (numR bs p e 8).2.1 (numR bs p e 8).2.2 64).2.1 (textR bs (numR bs p e 8).2.1 (numR bs p e 8).2.2 64).2.2).1, (outsR bs n (textR bs (numR bs p e 8).2.1 (numR bs p e 8).2.2 64).2.1 (textR bs (numR bs p e 8).2.1 (numR bs p e 8).2.2 64).2.2).2)
def aR (bs : List Int) : Int × Nat × Int := numR bs 0 0 1
def sR (bs : List Int) : Int × Nat × Int := numR bs (aR bs).2.1 (aR bs).2.2 8
def nR (bs : List Int) : Int × Nat × Int := varR bs (sR bs).2.1 (sR bs).2.2 8
def oR (bs : List Int) : List OutT × Nat × Int := outsR bs (nR bs).1.toNat (nR bs).2.1 (nR bs).2.2
def badR (bs : List Int) : Bool := decide (bs.length = 64) || (decide ((aR bs).2.2 = 0) && decide ((aR bs).1 ≠ 1))
def endE (bs : List Int) : Int := endR bs (oR bs).2.1 (oR bs).2.2
def parseE (bs : List Int) : Int := if badR bs then 3 else endE bs
def parseS (bs : List Int) : Int := if badR bs then 0 else if endE bs = 0 then (sR bs).1 else 0
def parseO (bs : List Int) : List OutT := if badR bs then [] else if endE bs = 0 then (oR bs).1 else []
theorem outsR_le {bs : List Int} : ∀ (n p : Nat) (e : Int), p ≤ bs.length → (outsR bs n p e).2.1 ≤ bs.length
  | 0, p, e, hp => hp
  | n + 1, p, e, hp => outsR_le n _ _ (textR_le (numR_le hp _ _) _ _)
theorem outsR_len {bs : List Int} : ∀ (n p : Nat) (e : Int), (outsR bs n p e).1.length = n
  | 0, p, e => rfl
  | n + 1, p, e => by simp [outsR, outsR_len n]
theorem nR_le {bs : List Int} (hb : ∀ x ∈ bs, 0 ≤ x ∧ x < 256) : 0 ≤ (nR bs).1 ∧ (nR bs).1 ≤ 8 := by
  have h := varR_u64 hb (sR bs).2.1 (sR bs).2.2 (most := 8) (by decide)
  exact ⟨h.1, h.2.1⟩
theorem aR_le (bs : List Int) : (aR bs).2.1 ≤ bs.length := numR_le (Nat.zero_le _) _ _
theorem sR_le (bs : List Int) : (sR bs).2.1 ≤ bs.length := numR_le (aR_le bs) _ _
theorem nR_pl (bs : List Int) : (nR bs).2.1 ≤ bs.length := varR_le (sR_le bs) _ _
theorem oR_le (bs : List Int) : (oR bs).2.1 ≤ bs.length := outsR_le _ _ _ (nR_pl bs)
section
/-- The reader at g (its memory from B on), the transaction under way in block gt, the answer's place gr; Q: what the outputs' blocks are. -/
def IsT (w0 w : World) (B g gr gt : Nat) (bs : List Int) (p : Nat) (e salt : Int) (u : Value) (acc : List OutT) (Q : Nat → Prop) : Prop :=
  p ≤ bs.length ∧ IsR w B g bs (p : Int) e ∧ w.heap[gt]? = some (.cells #[.int .u64 salt, u] 25 (0, 0)) ∧ Kd.R k54 54 w (g + 1) (fun k => k ≠ g ∧ Q k) u acc ∧ w.heap[gr]? = some (.cells #[.int .u64 0, .slice none 0 0] 25 (0, 0)) ∧ Below w0.heap.size w0 w ∧ w0.heap.size ≤ gr ∧ gr < g ∧ g < gt ∧ w0.heap.size ≤ B ∧ B ≤ g
variable {w0 w w' : World} {B g gr gt : Nat} {bs : List Int} {p p' : Nat} {e e' salt : Int} {u : Value} {acc : List OutT} {Q Q' : Nat → Prop}
theorem IsT.lt (h : IsT w0 w B g gr gt bs p e salt u acc Q) : gt < w.heap.size := blk_lt h.2.2.1
theorem IsT.mono (h : IsT w0 w B g gr gt bs p e salt u acc Q) (hq : ∀ k, Q k → Q' k) : IsT w0 w B g gr gt bs p e salt u acc Q' := by
  obtain ⟨h1, h2, h3, h4, h5⟩ := h
  exact ⟨h1, h2, h3, Kd.R_mono h4 (fun k hk => ⟨hk.1, hq k hk.2⟩), h5⟩
theorem IsT.bound (h : IsT w0 w B g gr gt bs p e salt u acc Q) : IsT w0 w B g gr gt bs p e salt u acc (fun k => Q k ∧ k < w.heap.size) := by
  obtain ⟨h1, h2, h3, h4, h5⟩ := h
  exact ⟨h1, h2, h3, Kd.R_mono (Kd.R_bound h4) (fun k hk => ⟨hk.1.1, hk.1.2, hk.2.2.1⟩), h5⟩
theorem IsT.read (h : IsT w0 w B g gr gt bs p e salt u acc Q) (hr : IsR w' B g bs (p' : Int) e') (hk : RKeep w w' B g) (hp : p' ≤ bs.length) : IsT w0 w' B g gr gt bs p' e' salt u acc Q := by
  obtain ⟨h1, h2, h3, h4, h5, h6, h7, h8, h9, h10, h11⟩ := h
  exact ⟨hp, hr, hk.2.blk h3 (by omega) (by simp), Kd.R_keep h4 hk.2 (fun k hk => hk.1), hk.2.blk h5 (by omega) (by simp), h6.trans (Below.mono hk.1 h10), h7, h8, h9, h10, h11⟩
theorem IsT.alloc (h : IsT w0 w B g gr gt bs p e salt u acc Q) (o : Obj) : IsT w0 (w.alloc o) B g gr gt bs p e salt u acc Q := by
  obtain ⟨h1, h2, h3, h4, h5, h6, h7⟩ := h
  exact ⟨h1, h2.alloc o, blk_alloc h3 o, Kd.R_alloc h4 o, blk_alloc h5 o, below_alloc h6 o, h7⟩
theorem IsT.far (h : IsT w0 w B g gr gt bs p e salt u acc Q) {b : Nat} (hb : gt < b) (hq : ∀ k, Q k → k ≠ b) (j : Nat) (x : Value) : IsT w0 (w.setCell ⟨b, j, none⟩ x) B g gr gt bs p e salt u acc Q := by
  obtain ⟨h1, h2, h3, h4, h5, h6, h7, h8, h9, h10, h11⟩ := h
  exact ⟨h1, h2.below (B' := g + 1) ((Below.refl _ _).setCell (p := ⟨b, j, none⟩) (by show g + 1 ≤ b; omega) x) (by omega), (Below.heap_setCell w ⟨b, j, none⟩ x gt (by show gt ≠ b; omega)).trans h3, Kd.R_far (p := ⟨b, j, none⟩) h4 (fun k hk => hq k hk.2) x, (Below.heap_setCell w ⟨b, j, none⟩ x gr (by show gr ≠ b; omega)).trans h5, h6.setCell (p := ⟨b, j, none⟩) (by show w0.heap.size ≤ b; omega) x, h7, h8, h9, h10, h11⟩
/-- One output more. -/
theorem IsT.push (h : IsT w0 w B g gr gt bs p e salt u acc Q) {v1 : Value} {acc' : List OutT} (hR : Kd.R k54 54 w' (g + 1) (fun k => k ≠ g) v1 acc') (hb : Below (g + 1) w w') (hg : w.grownBy w' u.ownBlock) :
    w'.cell? ⟨gt, 1, none⟩ = some u ∧ w'.frozen? ⟨gt, 1, none⟩ = false ∧ IsT w0 (w'.setCell ⟨gt, 1, none⟩ v1) B g gr gt bs p e salt v1 acc' (fun _ => True) := by
  obtain ⟨h1, h2, h3, h4, h5, h6, h7, h8, h9, h10, h11⟩ := h
  have hgt : w'.heap[gt]? = some (.cells #[.int .u64 salt, u] 25 (0, 0)) := (hg.block gt (blk_lt h3) (Kd.R_ne h4 h3 (by decide))).trans h3
  refine ⟨(blk_cell hgt 1).trans rfl, blk_frozen hgt _, h1, ?_, ?_, ?_, ?_, ?_, h7, h8, h9, h10, h11⟩
  · exact (h2.below hb (by omega)).below (B' := g + 1) ((Below.refl _ _).setCell (p := ⟨gt, 1, none⟩) (by show g + 1 ≤ gt; omega) v1) (by omega)
  · exact blk_set hgt 1 v1
  · exact Kd.R_mono (Kd.R_set hR hgt (by decide) 1 v1) (fun k hk => ⟨hk, trivial⟩)
  · exact (Below.heap_setCell w' ⟨gt, 1, none⟩ v1 gr (by show gr ≠ gt; omega)).trans ((hb.block gr (by omega)).trans h5)
  · exact (h6.trans (Below.mono hb (by omega))).setCell (p := ⟨gt, 1, none⟩) (by show w0.heap.size ≤ gt; omega) v1
end
end Go.Proofs.Ytpjkhecefppamaa.Hand
