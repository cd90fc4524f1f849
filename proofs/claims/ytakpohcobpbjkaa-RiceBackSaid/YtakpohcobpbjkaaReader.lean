/- The bit reader: made of bytes, and its methods over rows of bits. -/
import Derived.Test.YtakpohcobpbjkaaProg
import Derived.Below
import Derived.Deep.Draws
import Derived.Deep.AppendLies
import Derived.Maps.AppendAt
import Derived.OwnWalk
import Derived.Laws.BytesArg
import Derived.Laws.MakeOwn
import Derived.Laws.OwnMore
import Derived.Deep.OwnRows
import Derived.Tactics
import Derived.Lib.ConvBytes
import Derived.Laws.Slices
import Derived.WalkKit
import Derived.KernelRfl
import Derived.RowKit3
import Derived.Deep.LoopGhost
import Derived.Deep.QuietTactic
import Derived.BigQuiet
import Derived.WideLaws
import Derived.Deep.DeepCutAuto
import Derived.Deep.CutBlock
import Derived.Deep.RegionHeld3
import Derived.Laws.Rows
import Derived.Lib.AppendStr
import Derived.ArgAppend
import Derived.Laws.IdiomCopy
import Derived.OrdersHeld
import Derived.Laws.BitsLemmas
import Derived.RowKit
import Derived.StillTailTactics
import Derived.Test.YtakpohcobpbjkaaWWords
import Derived.Test.YtakpohcobpbjkaaWLast
import Derived.Test.YtakpohcobpbjkaaWMore
import Derived.Lib.Hide
import Derived.Outline
import Derived.Test.YtakpohcobpbjkaaClone
import Derived.Test.YtakpohcobpbjkaaBitRef
namespace Go.Proofs.Ytakpohcobpbjkaa.Hand
open Go Go.RowKit Go.Proofs.Ytakpohcobpbjkaa.Plain Go.Proofs.Ytakpohcobpbjkaa.PAll Go.Proofs.YtakpohcobpbjkaaW.PrintWords Go.Proofs.YtakpohcobpbjkaaW.PrintLast Go.Proofs.YtakpohcobpbjkaaW.PrintMore
set_option linter.unusedVariables false
set_option linter.unusedSimpArgs false
/-- A world's first blocks. -/
def trunc (w : World) (g : Nat) : World := { w with heap := w.heap.extract 0 g }
theorem trunc_size {w : World} {g : Nat} (h : g < w.heap.size) : (trunc w g).heap.size = g := by simp [trunc]; omega
theorem trunc_block {w : World} {g k : Nat} (h : k < g) (hg : g < w.heap.size) : (trunc w g).heap[k]? = w.heap[k]? := by
  simp [trunc, Array.getElem?_extract, h]
  omega
theorem below_trunc {w : World} {g : Nat} (hg : g < w.heap.size) : Below (trunc w g).heap.size (trunc w g) w := by
  refine ⟨rfl, rfl, rfl, by rw [trunc_size hg]; omega, fun i hi => ?_⟩
  rw [trunc_size hg] at hi
  exact (trunc_block hi hg).symm
/-- A row of bytes is read alike where its cells are the same. -/
theorem C_moved {w w1 : World} {A : Option Addr} {bs : List Int} (h : Kd.C (Kd.int .u8) w A bs.length bs) (hb : ∀ a x, w.cell? a = some (.int .u8 x) → w1.cell? a = some (.int .u8 x)) : Kd.C (Kd.int .u8) w1 A bs.length bs := by
  obtain ⟨h1, h2, h3⟩ := h
  refine ⟨h1, h2, fun hp => ?_⟩
  obtain ⟨ad, e, hc⟩ := h3 hp
  refine ⟨ad, e, fun j p hj => ?_⟩
  obtain ⟨c, hl, hK, hcell⟩ := hc j p hj
  refine ⟨c, hl, hK, fun i u hu => ?_⟩
  have hu' := hcell i u hu
  have hcp : c = [.int .u8 p] := hK
  subst hcp
  have : u = .int .u8 p := by
    cases i with
    | zero => simpa using hu.symm
    | succ i => simp at hu
  subst this
  exact hb _ _ hu'
theorem cell_trunc {w : World} {g : Nat} (hg : g < w.heap.size) {a : Addr} {v : Value} : (trunc w g).cell? a = some v ↔ a.block < g ∧ w.cell? a = some v := by
  constructor
  · intro h
    have hlt := World.block_lt_of_cell? _ a h
    rw [trunc_size hg] at hlt
    exact ⟨hlt, by rw [← h]; exact (World.cell?_of_block (trunc_block hlt hg)).symm⟩
  · rintro ⟨hlt, h⟩
    rw [← h]
    exact World.cell?_of_block (trunc_block hlt hg)
/-- A reader at block g (its memory from B on): its bytes, and how many bits were taken. -/
def IsRd (w : World) (B g : Nat) (bs : List Int) (at_ : Int) : Prop := B ≤ g ∧ IsS61 (trunc w g) w g bs at_
theorem IsRd.lt {w : World} {B g : Nat} {bs : List Int} {n : Int} (h : IsRd w B g bs n) : g < w.heap.size := h.2.lt
theorem IsRd.mk {w : World} {B g : Nat} {A : Option Addr} {c : Nat} {bs : List Int} {n : Int} (hB : B ≤ g) (hg : w.heap[g]? = some (.cells #[.slice A bs.length c, .int .i64 n] 61 (0, 0))) (hC : Kd.C (Kd.int .u8) (trunc w g) A bs.length bs) : IsRd w B g bs n :=
  ⟨hB, A, c, hg, by rw [trunc_size (Array.getElem?_eq_some_iff.1 hg).1]; exact Nat.le_refl _, hC⟩
/-- The world has changed, but not at the reader and its row. -/
theorem IsRd.moved {w w1 : World} {B g : Nat} {bs : List Int} {n : Int} (h : IsRd w B g bs n) (hg : w1.heap[g]? = w.heap[g]?) (hm : ∀ a x, a.block < g → w.cell? a = some (.int .u8 x) → w1.cell? a = some (.int .u8 x)) : IsRd w1 B g bs n := by
  have hlt := h.lt
  obtain ⟨hB, A, c, hb, _, hC⟩ := h
  have hb1 := hg.trans hb
  have hlt1 := (Array.getElem?_eq_some_iff.1 hb1).1
  refine IsRd.mk hB hb1 (C_moved hC fun a x hx => ?_)
  obtain ⟨h1, h2⟩ := (cell_trunc hlt).1 hx
  exact (cell_trunc hlt1).2 ⟨h1, hm a x h1 h2⟩
theorem IsRd.below {w w1 : World} {B B' g : Nat} {bs : List Int} {n : Int} (h : IsRd w B g bs n) (hb : Below B' w w1) (hgB : g < B') : IsRd w1 B g bs n :=
  h.moved (hb.block g hgB) fun a x ha hx => by rw [← hx]; exact World.cell?_of_block (hb.block a.block (by omega))
theorem IsRd.later {w w1 : World} {B g : Nat} {bs : List Int} {n : Int} (h : IsRd w B g bs n) (hb : Below w.heap.size w w1) : IsRd w1 B g bs n := h.below hb h.lt
theorem IsRd.alloc {w : World} {B g : Nat} {bs : List Int} {n : Int} (h : IsRd w B g bs n) (o : Obj) : IsRd (w.alloc o) B g bs n := h.later (below_alloc (Below.refl _ _) o)
theorem IsRd.drew {w : World} {B g : Nat} {bs : List Int} {n : Int} (h : IsRd w B g bs n) : IsRd w.drew B g bs n := h
theorem IsRd.drewN {w : World} {B g : Nat} {bs : List Int} {n : Int} (h : IsRd w B g bs n) (m : Nat) : IsRd (w.drewN m) B g bs n := h
theorem no_byte {w : World} {g m c : Nat} {A : Option Addr} {n : Int} {t : TypeId} {fr : Nat × Nat} (hb : w.heap[g]? = some (.cells #[.slice A m c, .int .i64 n] t fr)) {a : Addr} (e : a.block = g) (x : Int) : w.cell? a ≠ some (.int .u8 x) := by
  intro hx
  simp only [World.cell?, e, hb] at hx
  split at hx
  · cases hx
  · match h : a.off with
    | 0 => rw [h] at hx; simp at hx
    | 1 => rw [h] at hx; simp at hx
    | k + 2 => rw [h] at hx; simp at hx
/-- What a call of another reader's method leaves. -/
theorem IsRd.kept {w w1 : World} {B B' g g' : Nat} {bs bs' : List Int} {n n' : Int} (h : IsRd w B g bs n) (h' : IsRd w B' g' bs' n') (hk : KeepBut w w1 g' none) (hne : g ≠ g') : IsRd w1 B g bs n := by
  refine h.moved (hk.2 g h.lt hne (by simp)) fun a x ha hx => ?_
  have hag : a.block ≠ g' := by
    intro e
    obtain ⟨_, A, c, hb, _, _⟩ := h'
    exact no_byte hb e x hx
  rw [← hx]
  exact World.cell?_of_block (hk.2 a.block (World.block_lt_of_cell? w a hx) hag (by simp))
theorem IsRd.shut {w w1 : World} {B g : Nat} {bs : List Int} {n m : Int} (h : IsRd w B g bs n) (hI : IsS61 (trunc w g) w1 g bs m) (hb : Below (trunc w g).heap.size (trunc w g) w1) (hk : KeepBut w w1 g none) : IsRd w1 B g bs m ∧ Below B w w1 := by
  have hlt := h.lt
  obtain ⟨hB, _⟩ := h
  obtain ⟨A, c, hg, _, hC⟩ := hI
  have hlt1 := (Array.getElem?_eq_some_iff.1 hg).1
  refine ⟨IsRd.mk hB hg (C_moved hC fun a x hx => ?_), ⟨hb.os, hb.tape, hb.output, hk.1, fun i hi => hk.2 i (by omega) (by omega) (by simp)⟩⟩
  obtain ⟨h1, h2⟩ := (cell_trunc hlt).1 hx
  exact (cell_trunc hlt1).2 ⟨h1, by rw [← h2]; exact World.cell?_of_block (hk.2 a.block (by omega) (by omega) (by simp))⟩
theorem of_calls (A : Option Addr) (n c : Nat) (bs : List Int) (w : World) (hn : n = bs.length) (hr : Kd.C (Kd.int .u8) w A bs.length bs) (hc : bs.length ≤ c) (hl : bs.length < 140737488355328) :
    Calls Try.prog 20 #[.slice A n c] w fun e w' => ∃ g, e = .returned (.pointer (some ⟨g, 0, none⟩)) ∧ w.heap.size ≤ g ∧ IsRd w' w.heap.size g bs 0 ∧ Below w.heap.size w w' := by
  subst hn
  have HR := Lib.hid hr
  have HC := Lib.hid hc
  have HL := Lib.hid hl
  clear hr hc hl
  go_enter Try.func20, Try.ntmps20
  go_wp2_with fail
  refine (clone_calls A _ c bs _ rfl HR.out HC.out HL.out).mono ?_
  rintro e w1 ⟨v, rfl, hv, hb⟩
  obtain ⟨A', c', rfl, hl', hC'⟩ := Kd.R_reads hv
  have HCC := Lib.hid hC'
  have HB := Lib.hid hb
  clear hv hl' hC' hb
  go_wp2
  go_ret
  refine ⟨w1.heap.size, rfl, HB.out.size, IsRd.mk HB.out.size (by simpa using heap_alloc_new w1 _) (C_moved HCC.out fun a x hx => ?_), below_alloc HB.out _⟩
  have hlt := World.block_lt_of_cell? _ a hx
  exact (cell_trunc (by simp)).2 ⟨hlt, by rw [← hx]; exact World.cell?_alloc_lt _ _ _ hlt⟩
end Go.Proofs.Ytakpohcobpbjkaa.Hand
