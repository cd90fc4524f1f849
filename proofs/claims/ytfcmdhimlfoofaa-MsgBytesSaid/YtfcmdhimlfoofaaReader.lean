/- The codec's reader: what its smaller methods do to the reader in memory. -/
import Derived.Test.YtfcmdhimlfoofaaProg
import Derived.Below
import Derived.Deep.Draws
import Derived.Deep.AppendLies
import Derived.Maps.AppendAt
import Derived.OwnWalk
import Derived.Laws.BytesArg
import Derived.Laws.MakeOwn
import Derived.Laws.OwnMore
import Derived.Deep.OwnRows
import Derived.Tactics
import Derived.Lib.ConvBytes
import Derived.Laws.Slices
import Derived.WalkKit
import Derived.KernelRfl
import Derived.RowKit3
import Derived.Deep.LoopGhost
import Derived.Deep.QuietTactic
import Derived.BigQuiet
import Derived.WideLaws
import Derived.Deep.DeepCutAuto
import Derived.Deep.CutBlock
import Derived.Deep.RegionHeld3
import Derived.Laws.Rows
import Derived.Lib.AppendStr
import Derived.ArgAppend
import Derived.Laws.IdiomCopy
import Derived.OrdersHeld
import Derived.Laws.BitsLemmas
import Derived.RowKit
import Derived.StillTailTactics
import Derived.Test.YtfcmdhimlfoofaaWWords
import Derived.Test.YtfcmdhimlfoofaaWLast
import Derived.Test.YtfcmdhimlfoofaaWMore
import Derived.Lib.Hide
import Derived.Outline
import Derived.Deep.RegionLaw
import Derived.BigRegion
import Derived.Test.YtfcmdhimlfoofaaKeeps
import Derived.Test.YtfcmdhimlfoofaaClone
import Derived.Test.YtfcmdhimlfoofaaOctet
namespace Go.Proofs.Ytfcmdhimlfoofaa.Hand
open Go Go.RowKit Go.Proofs.Ytfcmdhimlfoofaa.Plain Go.Proofs.Ytfcmdhimlfoofaa.PAll Go.Proofs.YtfcmdhimlfoofaaW.PrintWords Go.Proofs.YtfcmdhimlfoofaaW.PrintLast Go.Proofs.YtfcmdhimlfoofaaW.PrintMore
attribute [local go_sem] max2_int min2_int max_two min_two max_three min_three max_four min_four
set_option linter.unusedVariables false
set_option linter.unusedSimpArgs false
/-- A world's first blocks. -/
def trunc (w : World) (g : Nat) : World := { w with heap := w.heap.extract 0 g }
theorem trunc_size {w : World} {g : Nat} (h : g < w.heap.size) : (trunc w g).heap.size = g := by simp [trunc]; omega
theorem trunc_block {w : World} {g k : Nat} (h : k < g) (hg : g < w.heap.size) : (trunc w g).heap[k]? = w.heap[k]? := by
  simp [trunc, Array.getElem?_extract, h]
  omega
theorem below_trunc {w : World} {g : Nat} (hg : g < w.heap.size) : Below (trunc w g).heap.size (trunc w g) w := by
  refine ⟨rfl, rfl, rfl, by rw [trunc_size hg]; omega, fun i hi => ?_⟩
  rw [trunc_size hg] at hi
  exact (trunc_block hi hg).symm
/-- A row of bytes is read alike where its cells are the same. -/
theorem C_moved {w w1 : World} {A : Option Addr} {bs : List Int} (h : Kd.C (Kd.int .u8) w A bs.length bs) (hb : ∀ a x, w.cell? a = some (.int .u8 x) → w1.cell? a = some (.int .u8 x)) : Kd.C (Kd.int .u8) w1 A bs.length bs := by
  obtain ⟨h1, h2, h3⟩ := h
  refine ⟨h1, h2, fun hp => ?_⟩
  obtain ⟨ad, e, hc⟩ := h3 hp
  refine ⟨ad, e, fun j p hj => ?_⟩
  obtain ⟨c, hl, hK, hcell⟩ := hc j p hj
  refine ⟨c, hl, hK, fun i u hu => ?_⟩
  have hu' := hcell i u hu
  have hcp : c = [.int .u8 p] := hK
  subst hcp
  have : u = .int .u8 p := by
    cases i with
    | zero => simpa using hu.symm
    | succ i => simp at hu
  subst this
  exact hb _ _ hu'
theorem cell_trunc {w : World} {g : Nat} (hg : g < w.heap.size) {a : Addr} {v : Value} : (trunc w g).cell? a = some v ↔ a.block < g ∧ w.cell? a = some v := by
  constructor
  · intro h
    have hlt := World.block_lt_of_cell? _ a h
    rw [trunc_size hg] at hlt
    exact ⟨hlt, by rw [← h]; exact (World.cell?_of_block (trunc_block hlt hg)).symm⟩
  · rintro ⟨hlt, h⟩
    rw [← h]
    exact World.cell?_of_block (trunc_block hlt hg)
/-- A reader at block g (its memory from B on): its bytes, how many were taken, its error. -/
def IsR (w : World) (B g : Nat) (bs : List Int) (p e : Int) : Prop := B ≤ g ∧ ∃ A c, w.heap[g]? = some (.cells #[.slice A bs.length c, .int .i64 p, .int .i64 e] 109 (0, 0)) ∧ bs.length ≤ c ∧ Kd.C (Kd.int .u8) (trunc w g) A bs.length bs
theorem IsR.lt {w : World} {B g : Nat} {bs : List Int} {p e : Int} (h : IsR w B g bs p e) : g < w.heap.size := by
  obtain ⟨_, A, c, hg, _⟩ := h
  exact blk_lt hg
theorem IsR.cells {w : World} {B g : Nat} {bs : List Int} {p e : Int} (h : IsR w B g bs p e) : ∃ A c, w.cell? ⟨g, 0, none⟩ = some (.slice A bs.length c) ∧ w.cell? ⟨g, 1, none⟩ = some (.int .i64 p) ∧ w.cell? ⟨g, 2, none⟩ = some (.int .i64 e) ∧ w.frozen? ⟨g, 1, none⟩ = false ∧ w.frozen? ⟨g, 2, none⟩ = false ∧ bs.length ≤ c ∧ Kd.C (Kd.int .u8) w A bs.length bs := by
  have hlt := h.lt
  obtain ⟨_, A, c, hg, hc, hC⟩ := h
  exact ⟨A, c, blk_cell hg 0, blk_cell hg 1, blk_cell hg 2, blk_frozen hg 1, blk_frozen hg 2, hc, Kd.C_below hC (below_trunc hlt)⟩
/-- The world has changed, but not at the reader and its row. -/
theorem IsR.moved {w w1 : World} {B g : Nat} {bs : List Int} {p e : Int} (h : IsR w B g bs p e) (hg : w1.heap[g]? = w.heap[g]?) (hm : ∀ a x, a.block < g → w.cell? a = some (.int .u8 x) → w1.cell? a = some (.int .u8 x)) : IsR w1 B g bs p e := by
  have hlt := h.lt
  obtain ⟨hB, A, c, hb, hc, hC⟩ := h
  have hb1 := hg.trans hb
  have hlt1 := blk_lt hb1
  refine ⟨hB, A, c, hb1, hc, C_moved hC fun a x hx => ?_⟩
  obtain ⟨h1, h2⟩ := (cell_trunc hlt).1 hx
  exact (cell_trunc hlt1).2 ⟨h1, hm a x h1 h2⟩
theorem IsR.below {w w1 : World} {B B' g : Nat} {bs : List Int} {p e : Int} (h : IsR w B g bs p e) (hb : Below B' w w1) (hgB : g < B') : IsR w1 B g bs p e :=
  h.moved (hb.block g hgB) fun a x ha hx => by rw [← hx]; exact World.cell?_of_block (hb.block a.block (by omega))
theorem IsR.later {w w1 : World} {B g : Nat} {bs : List Int} {p e : Int} (h : IsR w B g bs p e) (hb : Below w.heap.size w w1) : IsR w1 B g bs p e := h.below hb h.lt
theorem IsR.alloc {w : World} {B g : Nat} {bs : List Int} {p e : Int} (h : IsR w B g bs p e) (o : Obj) : IsR (w.alloc o) B g bs p e := h.later (below_alloc (Below.refl _ _) o)
theorem IsR.drew {w : World} {B g : Nat} {bs : List Int} {p e : Int} (h : IsR w B g bs p e) : IsR w.drew B g bs p e := h
theorem IsR.drewN {w : World} {B g : Nat} {bs : List Int} {p e : Int} (h : IsR w B g bs p e) (m : Nat) : IsR (w.drewN m) B g bs p e := h
/-- A cell of the reader's block is set. -/
theorem IsR.setAt {w : World} {B g : Nat} {bs : List Int} {p e : Int} (h : IsR w B g bs p e) (q : Int) : IsR (w.setCell ⟨g, 1, none⟩ (.int .i64 q)) B g bs q e ∧ Below B w (w.setCell ⟨g, 1, none⟩ (.int .i64 q)) ∧ KeepBut w (w.setCell ⟨g, 1, none⟩ (.int .i64 q)) g none := by
  have hlt := h.lt
  obtain ⟨hB, A, c, hb, hc, hC⟩ := h
  have hlt1 : g < (w.setCell ⟨g, 1, none⟩ (.int .i64 q)).heap.size := by rw [World.size_setCell]; exact hlt
  refine ⟨⟨hB, A, c, by rw [blk_set hb 1 _]; rfl, hc, C_moved hC fun a x hx => ?_⟩, (Below.refl B w).setCell (p := ⟨g, 1, none⟩) hB _, by rw [World.size_setCell]; exact Nat.le_refl _, fun i hi hig _ => Below.heap_setCell w ⟨g, 1, none⟩ _ i hig⟩
  obtain ⟨h1, h2⟩ := (cell_trunc hlt).1 hx
  exact (cell_trunc hlt1).2 ⟨h1, by rw [← h2]; exact World.cell?_of_block (Below.heap_setCell w ⟨g, 1, none⟩ _ a.block (by show a.block ≠ g; omega))⟩
theorem IsR.setE {w : World} {B g : Nat} {bs : List Int} {p e : Int} (h : IsR w B g bs p e) (q : Int) : IsR (w.setCell ⟨g, 2, none⟩ (.int .i64 q)) B g bs p q ∧ Below B w (w.setCell ⟨g, 2, none⟩ (.int .i64 q)) ∧ KeepBut w (w.setCell ⟨g, 2, none⟩ (.int .i64 q)) g none := by
  have hlt := h.lt
  obtain ⟨hB, A, c, hb, hc, hC⟩ := h
  have hlt1 : g < (w.setCell ⟨g, 2, none⟩ (.int .i64 q)).heap.size := by rw [World.size_setCell]; exact hlt
  refine ⟨⟨hB, A, c, by rw [blk_set hb 2 _]; rfl, hc, C_moved hC fun a x hx => ?_⟩, (Below.refl B w).setCell (p := ⟨g, 2, none⟩) hB _, by rw [World.size_setCell]; exact Nat.le_refl _, fun i hi hig _ => Below.heap_setCell w ⟨g, 2, none⟩ _ i hig⟩
  obtain ⟨h1, h2⟩ := (cell_trunc hlt).1 hx
  exact (cell_trunc hlt1).2 ⟨h1, by rw [← h2]; exact World.cell?_of_block (Below.heap_setCell w ⟨g, 2, none⟩ _ a.block (by show a.block ≠ g; omega))⟩
/-- What all methods leave: the reader's block alone may have changed. -/
def RKeep (w w' : World) (B g : Nat) : Prop := Below B w w' ∧ KeepBut w w' g none
theorem RKeep.refl (w : World) (B g : Nat) : RKeep w w B g := ⟨Below.refl _ _, KeepBut.refl _ _ _⟩
theorem RKeep.trans {w w1 w2 : World} {B g : Nat} (h : RKeep w w1 B g) (h' : RKeep w1 w2 B g) : RKeep w w2 B g :=
  ⟨h.1.trans h'.1, by have := h.2.1; have := h'.2.1; omega, fun i hi hg hr => (h'.2.2 i (by have := h.2.1; omega) hg hr).trans (h.2.2 i hi hg hr)⟩
theorem RKeep.below {w w1 w2 : World} {B g : Nat} (h : RKeep w w1 B g) (hB : B ≤ w1.heap.size) (hb : Below w1.heap.size w1 w2) : RKeep w w2 B g :=
  h.trans ⟨Below.mono hb hB, hb.size, fun i hi _ _ => hb.block i hi⟩
theorem RKeep.drew {w w1 : World} {B g : Nat} (h : RKeep w w1 B g) : RKeep w w1.drew B g := ⟨below_drew h.1, h.2⟩
theorem RKeep.drewN {w w1 : World} {B g : Nat} (h : RKeep w w1 B g) (n : Nat) : RKeep w (w1.drewN n) B g := ⟨pw_below_drewN h.1 n, h.2⟩
/-- A row in a block of its own, made since, beside the reader. -/
theorem R_rkeep {w w1 : World} {B g base : Nat} {v : Value} {xs : List Int} (hR : Kd.R (Kd.int .u8) 5 w base (fun k => k ≠ g) v xs) (h : RKeep w w1 B g) : Kd.R (Kd.int .u8) 5 w1 base (fun k => k ≠ g) v xs :=
  Kd.R_keep hR h.2 (fun k hk => hk)
theorem cof_calls (A : Option Addr) (n c : Nat) (bs : List Int) (w : World) (hn : n = bs.length) (hr : Kd.C (Kd.int .u8) w A bs.length bs) (hc : bs.length ≤ c) (hl : bs.length < 140737488355328) :
    Calls Try.prog 30 #[.slice A n c] w fun e w' => ∃ g, e = .returned (.pointer (some ⟨g, 0, none⟩)) ∧ w.heap.size ≤ g ∧ IsR w' w.heap.size g bs 0 0 ∧ Below w.heap.size w w' := by
  subst hn
  have HR := Lib.hid hr
  have HC := Lib.hid hc
  have HL := Lib.hid hl
  clear hr hc hl
  go_enter Try.func30, Try.ntmps30
  go_wp2_with fail
  refine (clone_calls A _ c bs _ rfl HR.out HC.out HL.out).mono ?_
  rintro e w1 ⟨v, rfl, hv, hb⟩
  obtain ⟨A', c', rfl, hl', hC'⟩ := Kd.R_reads hv
  have HCC := Lib.hid hC'
  have HLL := Lib.hid hl'
  have HB := Lib.hid hb
  clear hv hl' hC' hb
  go_wp2
  go_ret
  refine ⟨w1.heap.size, rfl, HB.out.size, ⟨HB.out.size, A', c', by simpa using heap_alloc_new w1 _, HLL.out, C_moved HCC.out fun a x hx => ?_⟩, below_alloc HB.out _⟩
  have hlt := World.block_lt_of_cell? _ a hx
  exact (cell_trunc (by simp)).2 ⟨hlt, by rw [← hx]; exact World.cell?_alloc_lt _ _ _ hlt⟩
theorem cerr_calls {w : World} {B g : Nat} {bs : List Int} {p e : Int} (h : IsR w B g bs p e) : Calls Try.prog 32 #[.pointer (some ⟨g, 0, none⟩)] w fun e' w' => e' = .returned (.int .i64 e) ∧ w = w' := by
  obtain ⟨A, c, h0, h1, h2, _, _, _, _⟩ := h.cells
  clear h
  go_enter Try.func32, Try.ntmps32
  go_wp2
  go_ret
  exact ⟨rfl, rfl⟩
theorem cleft_calls {w : World} {B g : Nat} {bs : List Int} {p e : Int} (h : IsR w B g bs p e) (hp0 : 0 ≤ p) (hp : p ≤ bs.length) (hl : bs.length ≤ 100000000) : Calls Try.prog 58 #[.pointer (some ⟨g, 0, none⟩)] w fun e' w' => e' = .returned (.int .i64 (bs.length - p)) ∧ ∃ n, w' = w.drewN n := by
  obtain ⟨A, c, h0, h1, h2, _, _, _, _⟩ := h.cells
  obtain ⟨m, hm⟩ : ∃ m : Int, (bs.length : Int) - p = m := ⟨_, rfl⟩
  have hw : IntKind.i64.wrap ((bs.length : Int) - p) = m := by rw [IntWalk.i64_in _ (by omega)]; exact hm
  rw [hm]
  clear hm h hp0 hp hl
  go_enter Try.func58, Try.ntmps58
  go_wp2
  go_quiet (fail)
  go_wp2
  go_ret
  exact ⟨rfl, _, rfl⟩
theorem cfail_calls {w : World} {B g : Nat} {bs : List Int} {p e : Int} (h : IsR w B g bs p e) (q x : Int) : Calls Try.prog 69 #[.pointer (some ⟨g, 0, none⟩), .int .i64 q, .int .i64 x] w fun e' w' => e' = .returned (.tuple #[]) ∧ IsR w' B g bs q (if e = 0 then x else e) ∧ RKeep w w' B g := by
  have HW := Lib.hid h
  obtain ⟨A, c, h0, h1, h2, f1, f2, _, _⟩ := h.cells
  clear h
  by_cases he : e = 0
  · have b1 : (e == 0) = true := beq_iff_eq.2 he
    have HE := Lib.hid he
    obtain ⟨k1, k2, k3⟩ := HW.out.setE x
    obtain ⟨k4, k5, k6⟩ := k1.setAt q
    have H := Lib.hid (And.intro k4 (And.intro (k2.trans k5) ((RKeep.trans ⟨k2, k3⟩ ⟨k5, k6⟩ : RKeep w _ B g).2)))
    clear he k1 k2 k3 k4 k5 k6
    go_enter Try.func69, Try.ntmps69
    go_wp2
    go_end0
    exact ⟨rfl, H.out.1, H.out.2⟩
  · have b1 : (e == 0) = false := beq_eq_false_iff_ne.2 he
    have HE := Lib.hid he
    obtain ⟨k4, k5, k6⟩ := HW.out.setAt q
    have H := Lib.hid (And.intro k4 (And.intro k5 k6))
    clear he k4 k5 k6
    go_enter Try.func69, Try.ntmps69
    go_wp2
    go_end0
    exact ⟨rfl, H.out.1, H.out.2⟩
end Go.Proofs.Ytfcmdhimlfoofaa.Hand
