/- A range over a function whose iterator keeps a variable of its own in a cell: the law of the walk. -/
import Derived.Test.YtlmcdkjobdcflaaDoorProg
import Derived.Below
import Derived.Deep.Draws
import Derived.Deep.AppendLies
import Derived.Maps.AppendAt
import Derived.OwnWalk
import Derived.Laws.BytesArg
import Derived.Laws.MakeOwn
import Derived.Laws.OwnMore
import Derived.Deep.OwnRows
import Derived.Tactics
import Derived.Lib.ConvBytes
import Derived.Laws.Slices
import Derived.WalkKit
import Derived.KernelRfl
import Derived.RowKit3
import Derived.Deep.LoopGhost
import Derived.Deep.QuietTactic
import Derived.BigQuiet
import Derived.WideLaws
import Derived.Deep.DeepCutAuto
import Derived.Deep.CutBlock
import Derived.Deep.RegionHeld3
import Derived.Laws.Rows
import Derived.Lib.AppendStr
import Derived.ArgAppend
import Derived.Laws.IdiomCopy
import Derived.OrdersHeld
import Derived.Laws.BitsLemmas
import Derived.RowKit
import Derived.StillTailTactics
import Derived.Test.YtlmcdkjobdcflaaDoorWWords
import Derived.Test.YtlmcdkjobdcflaaDoorWLast
import Derived.Test.YtlmcdkjobdcflaaDoorWMore
import Derived.RangeFuncNested
import Derived.RangeFuncBound
import Derived.RangeFuncCalls
import Derived.RangeFuncLeaves
import Derived.Lib.Hide
import Derived.Laws.Tables
namespace Go.Proofs.YtlmcdkjobdcflaaDoor.Hand
open Go Go.RowKit
set_option linter.unusedVariables false
/-- What lies in the blocks of S stays as it is. -/
structure Same (S : Nat → Prop) (A B : World) : Prop where
  os : B.os = A.os
  tape : B.tape = A.tape
  output : B.output = A.output
  size : A.heap.size ≤ B.heap.size
  block : ∀ k, k < A.heap.size → S k → B.heap[k]? = A.heap[k]?
theorem Same.refl (S : Nat → Prop) (A : World) : Same S A A := ⟨rfl, rfl, rfl, Nat.le_refl _, fun _ _ _ => rfl⟩
theorem Same.trans {S : Nat → Prop} {A B C : World} (h : Same S A B) (k : Same S B C) : Same S A C :=
  ⟨k.os.trans h.os, k.tape.trans h.tape, k.output.trans h.output, Nat.le_trans h.size k.size, fun i hi hs => (k.block i (Nat.lt_of_lt_of_le hi h.size) hs).trans (h.block i hi hs)⟩
theorem Same.mono {S S' : Nat → Prop} {A B : World} (h : Same S A B) (hs : ∀ k, S' k → S k) : Same S' A B := ⟨h.os, h.tape, h.output, h.size, fun i hi hi' => h.block i hi (hs i hi')⟩
theorem Same.of_below {S : Nat → Prop} {A B : World} (h : Below A.heap.size A B) : Same S A B := ⟨h.os, h.tape, h.output, h.size, fun i hi _ => h.block i hi⟩
theorem Same.below {S : Nat → Prop} {A B : World} {n : Nat} (h : Same S A B) (hs : ∀ k, k < n → S k) (hn : n ≤ A.heap.size) : Below n A B := ⟨h.os, h.tape, h.output, h.size, fun i hi => h.block i (by omega) (hs i hi)⟩
theorem Same.putObj {S : Nat → Prop} (A : World) {l : Nat} (o : Obj) (hl : ¬ S l) : Same S A (A.putObj l o) :=
  ⟨rfl, rfl, rfl, by simp, fun k _ hs => World.putObj_heap_other (fun e => hl (e ▸ hs))⟩
theorem Same.alloc {S : Nat → Prop} (A : World) (o : Obj) : Same S A (A.alloc o) := Same.of_below (below_allocS A o)
  where below_allocS (A : World) (o : Obj) : Below A.heap.size A (A.alloc o) := (Below.refl _ A).alloc (Nat.le_refl _) o
theorem Same.setCell {S : Nat → Prop} (A : World) {p : Addr} (v : Value) (hl : ¬ S p.block) : Same S A (A.setCell p v) :=
  ⟨rfl, rfl, rfl, by rw [World.size_setCell]; exact Nat.le_refl _, fun k _ hs => Below.heap_setCell A p v k (fun e => hl (e ▸ hs))⟩
theorem Same.setRow {S : Nat → Prop} (A : World) (g : Nat) (cs : Array Value) (hl : ¬ S g) : Same S A (A.setRow g cs) :=
  ⟨rfl, rfl, rfl, by rw [setRow_size]; exact Nat.le_refl _, fun k _ hs => setRow_other A g k cs (fun e => hl (e ▸ hs))⟩
/-- How the body of a round may be left: i rounds are over then. -/
def lPost (S : Nat → Prop) (I : Nat → World → Prop) (Ix : Code → Nat → World → Prop) (i : Nat) (W : World) : Exit → Act → World → Prop
  | .normal, _, W' => Same S W W' ∧ I i W'
  | .ret, _, W' => Same S W W' ∧ Ix .ret i W'
  | .exit id, _, W' => Same S W W' ∧ Ix (.exit id) i W'
  | .goto t, _, W' => Same S W W' ∧ Ix (.goto t) i W'
  | .panic _, _, _ => False
  | .outgrown, _, _ => False
/-- The contract of an iterator that keeps block L: the rounds i = 0, 1, .., each handed what 'X i' allows; between two of them it leaves what lies below the loop's own blocks, L aside; a round leaves it what is elder than b0, what is younger than the loop, and L. -/
def SeqL (F : Fence) (n : Nat) (P : Program) (g : Nat) (lb : Array Value) (b0 L : Nat) (X : Nat → Array Value → World → Prop) (D : Nat → Prop) (w : World) : Prop :=
  ∀ (l : Nat) (J Jx : Nat → World → Prop) (W : World), Below w.heap.size w W →
    (∀ i A B, J i A → Same (fun k => k < W.heap.size ∧ k ≠ L) A B → J i B) → (∀ i A B, Jx i A → Same (fun k => k < W.heap.size ∧ k ≠ L) A B → Jx i B) →
    (∀ i xs W1, J i W1 → X i xs W1 → W.heap.size ≤ W1.heap.size → YieldAt F (n - 1) P l xs W1 fun e W' =>
      (e = .returned (.bool true) ∧ J (i + 1) W' ∧ Same (fun k => k < b0 ∨ W.heap.size ≤ k ∨ k = L) W1 W') ∨ (e = .returned (.bool false) ∧ Jx (i + 1) W')) →
    J 0 W →
    CallsIn F n P g (#[.func (.yield l) #[] #[]] ++ lb) W fun e W' => (∃ v, e = .returned v) ∧ ((∃ i, D i ∧ J i W') ∨ (∃ i, Jx i W'))
variable {F : Fence} {n : Nat} {P : Program}
theorem wpIn_rangeFunc_L {g : Operand} {ps : Array Tmp} {assign body : Code} {Q : Exit → Act → World → Prop} {a : Act} {w : World}
    (hro : F.round = none) (h1 : 1 ≤ n) {gf : Nat} {lb : Array Value} (hg : a.eval g = .func (.func gf) #[] lb) (hFg : F.fn gf) (eg : ∀ args w, (callFunc gf args).run P w = .ok (.enter gf args) w)
    {b0 L : Nat} {X : Nat → Array Value → World → Prop} {D : Nat → Prop} (hseq : SeqL F (n - 1) P gf lb b0 L X D w) (hps : ∀ i xs W, X i xs W → xs.size = ps.size)
    (hX : ∀ i xs (B : World) (r : Loop) (o : Obj), X i xs B → B.heap[w.heap.size + 1]? = some (.loop r) → X i xs (B.putObj (w.heap.size + 1) o)) (hb0 : b0 ≤ w.heap.size) (hL : L < w.heap.size)
    (I : Nat → World → Prop) (Ix : Code → Nat → World → Prop)
    (hI : ∀ i A B, I i A → Same (fun k => k < w.heap.size ∧ k ≠ L) A B → I i B) (hIx : ∀ c i A B, Ix c i A → Same (fun k => k < w.heap.size ∧ k ≠ L) A B → Ix c i B)
    (h0 : I 0 w) (a₁ : Array Value → Act)
    (hassign : ∀ (l i : Nat) (xs : Array Value) (W : World) (K : Act → World → Prop), X i xs W → K (a₁ xs) W →
      assign.wpIn (F.inRound l) (n - 1 - 1) P (Exit.then K (fun _ _ _ => False)) { tmps := (ps.zip xs).foldl (fun t (p, v) => t.setIfInBounds p v) a.tmps, defers := [] } W)
    (hbody : ∀ (l i : Nat) (xs : Array Value) (W : World), I i W → X i xs W → w.heap.size + 2 ≤ W.heap.size →
      body.wpIn (F.inRound l) (n - 1 - 1) P (lPost (fun k => k < b0 ∨ w.heap.size ≤ k ∨ k = L) I Ix (i + 1) W) (a₁ xs) W)
    (hdone : ∀ (i : Nat) (W : World), D i → I i W → W.heap[w.heap.size]? = some (.deferred (some [])) → Q .normal { a with defers := { target := .collected w.heap.size, args := #[] } :: a.defers } W)
    (hstop : ∀ (c : Code) (i : Nat) (W : World), Ix c i W → W.heap[w.heap.size]? = some (.deferred (some [])) → c.wpIn F n P Q { a with defers := { target := .collected w.heap.size, args := #[] } :: a.defers } W) :
    (Code.rangeFunc g ps assign body).wpIn F n P Q a w := by
  refine wpIn_rangeFunc ?_
  intro fn hfn
  rw [hro]
  obtain ⟨rec, hrec⟩ : ∃ rec : LoopState → Option Code → Loop, rec = fun st pe => { state := st, pending := pe, fn, tmps := a.tmps, params := ps, assign, body, defers := w.heap.size } := ⟨_, rfl⟩
  obtain ⟨W1, hW1⟩ : ∃ W1, (w.alloc (.deferred (some []))).alloc (.loop (rec .ready none)) = W1 := ⟨_, rfl⟩
  have hz1 : W1.heap.size = w.heap.size + 2 := by rw [← hW1]; simp
  have hL1 : W1.heap[w.heap.size + 1]? = some (.loop (rec .ready none)) := by
    rw [← hW1]
    have := World.alloc_heap_new (w.alloc (.deferred (some []))) (.loop (rec .ready none))
    rwa [World.size_alloc] at this
  have hK1 : W1.heap[w.heap.size]? = some (.deferred (some [])) := by
    rw [← hW1]
    exact (Below.heap_alloc _ _ _ (by simp)).trans (World.alloc_heap_new w _)
  have hb1 : Below w.heap.size w W1 := by
    rw [← hW1]
    exact ((Below.refl _ w).alloc (Nat.le_refl _) _).alloc (by simp) _
  have hI1 : I 0 W1 := hI _ _ _ h0 (Same.of_below hb1)
  have hput : ∀ (i : Nat) (A : World) (l : Nat) (o : Obj), w.heap.size ≤ l → I i A → I i (A.putObj l o) := fun i A l o hl h => hI _ _ _ h (Same.putObj A o (by omega))
  have hputx : ∀ (c : Code) (i : Nat) (A : World) (l : Nat) (o : Obj), w.heap.size ≤ l → Ix c i A → Ix c i (A.putObj l o) := fun c i A l o hl h => hIx _ _ _ _ h (Same.putObj A o (by omega))
  refine ⟨w.heap.size + 1, [{ target := .collected w.heap.size, args := #[] }], W1, { target := .fn (.func gf) lb, args := #[.func (.yield (w.heap.size + 1)) #[] #[]] }, W1, gf,
    #[.func (.yield (w.heap.size + 1)) #[] #[]] ++ lb, W1, ?_, ?_, ?_, ?_, fun _ => h1, ?_⟩
  · rw [← hW1, hrec]
    exact run_enterLoop_outer _ _ _ _ _
  · simp only [resolve, hg]
    simp [go_sem]
  · intro f' hf'
    simp [Target.leads] at hf'
    subst hf'
    exact hFg
  · simp [invoke, go_sem, eg]
  · have hsub : ∀ k, (k < w.heap.size ∧ k ≠ L) → (k < W1.heap.size ∧ k ≠ L) := fun k hk => ⟨by omega, hk.2⟩
    refine (hseq (w.heap.size + 1)
      (fun i W => I i W ∧ W.heap[w.heap.size + 1]? = some (.loop (rec .ready none)) ∧ W.heap[w.heap.size]? = some (.deferred (some [])))
      (fun i W => ∃ c, Ix c i W ∧ W.heap[w.heap.size + 1]? = some (.loop (rec .done (some c))) ∧ W.heap[w.heap.size]? = some (.deferred (some [])))
      W1 hb1 ?_ ?_ ?_ ⟨hI1, hL1, hK1⟩).mono ?_
    · rintro i A B ⟨h, hl, hk⟩ hs
      exact ⟨hI _ _ _ h (hs.mono hsub), (hs.block _ (Array.getElem?_eq_some_iff.1 hl).1 ⟨by omega, by omega⟩).trans hl, (hs.block _ (Array.getElem?_eq_some_iff.1 hk).1 ⟨by omega, by omega⟩).trans hk⟩
    · rintro i A B ⟨c, h, hl, hk⟩ hs
      exact ⟨c, hIx _ _ _ _ h (hs.mono hsub), (hs.block _ (Array.getElem?_eq_some_iff.1 hl).1 ⟨by omega, by omega⟩).trans hl, (hs.block _ (Array.getElem?_eq_some_iff.1 hk).1 ⟨by omega, by omega⟩).trans hk⟩
    · -- one round
      rintro i xs W ⟨hi, hl, hk⟩ hx hsz
      have hlt : w.heap.size + 1 < W.heap.size := (Array.getElem?_eq_some_iff.1 hl).1
      have hy := run_yield (P := P) (args := xs) hl (by rw [hrec]; exact hps _ _ _ hx)
      rw [hrec] at hy
      refine ⟨fn, _, assign, body, hy, roundIn_of_wpIn hfn (hassign _ i xs W _ hx ⟨_, run_beginRound hl (by rw [hrec]), ?_⟩)⟩
      have hl2 : (W.putObj (w.heap.size + 1) (.loop { rec .ready none with state := .busy })).heap[w.heap.size + 1]? = some (.loop { rec .ready none with state := .busy }) := World.putObj_heap_same hlt
      have hk2 : (W.putObj (w.heap.size + 1) (.loop { rec .ready none with state := .busy })).heap[w.heap.size]? = some (.deferred (some [])) := (World.putObj_heap_other (by omega)).trans hk
      have hs2 : Same (fun k => k < b0 ∨ w.heap.size + 2 ≤ k ∨ k = L) W (W.putObj (w.heap.size + 1) (.loop { rec .ready none with state := .busy })) := Same.putObj W _ (by omega)
      refine wpIn_mono (hbody _ i xs _ (hput _ _ _ _ (by omega) hi) (hX _ _ _ _ _ hx hl) (by rw [World.putObj_size]; omega)) ?_
      obtain ⟨W2, hW2⟩ : ∃ W2, W.putObj (w.heap.size + 1) (.loop { rec .ready none with state := .busy }) = W2 := ⟨_, rfl⟩
      have fin : ∀ (jump : Option Code) (W3 : World), Same (fun k => k < b0 ∨ w.heap.size ≤ k ∨ k = L) W2 W3 →
          (Instr.endRound (w.heap.size + 1) jump).run P W3 = .ok (.bool jump.isNone) (W3.putObj (w.heap.size + 1) (.loop (rec (if jump.isNone then .ready else .done) jump))) ∧
          (W3.putObj (w.heap.size + 1) (.loop (rec (if jump.isNone then .ready else .done) jump))).heap[w.heap.size + 1]? = some (.loop (rec (if jump.isNone then .ready else .done) jump)) ∧
          (W3.putObj (w.heap.size + 1) (.loop (rec (if jump.isNone then .ready else .done) jump))).heap[w.heap.size]? = some (.deferred (some [])) := fun jump W3 hk3 => by
        rw [hW2] at hl2 hk2
        have hl3 := (hk3.block _ (Array.getElem?_eq_some_iff.1 hl2).1 (by omega)).trans hl2
        have hk4 := (hk3.block _ (Array.getElem?_eq_some_iff.1 hk2).1 (by omega)).trans hk2
        have := run_endRound (P := P) jump hl3
        rw [hrec] at this ⊢
        exact ⟨this, World.putObj_heap_same (Array.getElem?_eq_some_iff.1 hl3).1, (World.putObj_heap_other (by omega)).trans hk4⟩
      rw [hW2]
      rw [hW2] at hs2
      rintro e a3 W3 hp
      cases e with
      | normal =>
        obtain ⟨hk3, hi3⟩ := hp
        obtain ⟨hr, hl4, hk4⟩ := fin none W3 hk3
        refine ⟨_, _, hr, .inl ⟨rfl, ⟨hput _ _ _ _ (by omega) hi3, hl4, hk4⟩, ?_⟩⟩
        rw [hz1]
        exact (hs2.trans (hk3.mono (fun k hk => by omega))).trans (Same.putObj W3 _ (by omega))
      | ret =>
        obtain ⟨hk3, hi3⟩ := hp
        obtain ⟨hr, hl4, hk4⟩ := fin (some .ret) W3 hk3
        exact ⟨_, _, hr, .inr ⟨rfl, .ret, hputx _ _ _ _ _ (by omega) hi3, hl4, hk4⟩⟩
      | exit id =>
        obtain ⟨hk3, hi3⟩ := hp
        obtain ⟨hr, hl4, hk4⟩ := fin (some (.exit id)) W3 hk3
        exact ⟨_, _, hr, .inr ⟨rfl, .exit id, hputx _ _ _ _ _ (by omega) hi3, hl4, hk4⟩⟩
      | goto t =>
        obtain ⟨hk3, hi3⟩ := hp
        obtain ⟨hr, hl4, hk4⟩ := fin (some (.goto t)) W3 hk3
        exact ⟨_, _, hr, .inr ⟨rfl, .goto t, hputx _ _ _ _ _ (by omega) hi3, hl4, hk4⟩⟩
      | panic ch => exact hp.elim
      | outgrown => exact hp.elim
    · -- behind the iterator
      rintro e W2 ⟨⟨v, rfl⟩, (⟨i, hD, hi, hl, hk⟩ | ⟨i, c, hi, hl, hk⟩)⟩
      · exact ⟨none, _, by have := run_endLoop (P := P) hl (by rw [hrec]; simp); rw [hrec] at this; exact this, hdone i _ hD (hput _ _ _ _ (by omega) hi) ((World.putObj_heap_other (by omega)).trans hk)⟩
      · exact ⟨some c, _, by have := run_endLoop (P := P) hl (by rw [hrec]; simp); rw [hrec] at this; exact this, hstop c i _ (hputx _ _ _ _ _ (by omega) hi) ((World.putObj_heap_other (by omega)).trans hk)⟩
end Go.Proofs.YtlmcdkjobdcflaaDoor.Hand
