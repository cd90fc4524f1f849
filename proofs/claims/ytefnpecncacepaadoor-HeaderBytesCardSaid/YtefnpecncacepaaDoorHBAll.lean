/- Several texts in one. -/
import Derived.Test.YtefnpecncacepaaDoorProg
import Derived.Below
import Derived.Deep.Draws
import Derived.Deep.AppendLies
import Derived.Maps.AppendAt
import Derived.OwnWalk
import Derived.Laws.BytesArg
import Derived.Laws.MakeOwn
import Derived.Laws.OwnMore
import Derived.Deep.OwnRows
import Derived.Tactics
import Derived.Lib.ConvBytes
import Derived.Laws.Slices
import Derived.WalkKit
import Derived.KernelRfl
import Derived.RowKit3
import Derived.Deep.LoopGhost
import Derived.Deep.QuietTactic
import Derived.BigQuiet
import Derived.WideLaws
import Derived.Deep.DeepCutAuto
import Derived.Deep.CutBlock
import Derived.Deep.RegionHeld3
import Derived.Laws.Rows
import Derived.Lib.AppendStr
import Derived.ArgAppend
import Derived.Laws.IdiomCopy
import Derived.OrdersHeld
import Derived.Laws.BitsLemmas
import Derived.RowKit
import Derived.StillTailTactics
import Derived.Test.YtefnpecncacepaaDoorWWords
import Derived.Test.YtefnpecncacepaaDoorWLast
import Derived.Test.YtefnpecncacepaaDoorWMore
import Derived.Lib.Hide
import Derived.Outline
import Derived.Deep.RegionLaw
import Derived.BigRegion
import Derived.Test.YtefnpecncacepaaDoorKeeps
import Derived.Test.YtefnpecncacepaaDoorClone
import Derived.Test.YtefnpecncacepaaDoorOctet
import Derived.Test.YtefnpecncacepaaDoorCodecPlain
import Derived.Laws.CopyOwn
import Derived.Test.YtefnpecncacepaaDoorArrays
import Derived.Test.YtefnpecncacepaaDoorWriter
import Derived.Test.YtefnpecncacepaaDoorMAlln0
import Derived.Test.YtefnpecncacepaaDoorMAlln1
import Derived.Test.YtefnpecncacepaaDoorMAlln2
import Derived.Test.YtefnpecncacepaaDoorBlock
import Derived.Laws.Tables
import Derived.Deep.WholeRow
import Derived.LaidEql
import Derived.Deep.DrawnRows
import Derived.Deep.MidRow
import Derived.Test.YtefnpecncacepaaDoorSumL
import Derived.Lib.Strings
import Derived.Laws.StructEq
import Derived.Test.YtefnpecncacepaaDoorWEqStruct
import Derived.Test.YtefnpecncacepaaDoorArrEq
import Derived.Test.YtefnpecncacepaaDoorStrBytes
import Derived.Test.YtefnpecncacepaaDoorOpens2
import Derived.Lib.SlBytesConst
import Derived.Test.YtefnpecncacepaaDoorOwnB
import Derived.Test.YtefnpecncacepaaDoorStep2
/- The codec's reader: what its smaller methods do to the reader in memory. -/
namespace Go.Proofs.YtefnpecncacepaaDoor.Hand
open Go Go.RowKit Go.Proofs.YtefnpecncacepaaDoor.Plain Go.Proofs.YtefnpecncacepaaDoor.PAll Go.Proofs.YtefnpecncacepaaDoorW.PrintWords Go.Proofs.YtefnpecncacepaaDoorW.PrintLast Go.Proofs.YtefnpecncacepaaDoorW.PrintMore
attribute [local go_sem] max2_int min2_int max_two min_two max_three min_three max_four min_four
set_option linter.unusedVariables false
set_option linter.unusedSimpArgs false
/-- A world's first blocks. -/
def trunc (w : World) (g : Nat) : World := { w with heap := w.heap.extract 0 g }
theorem trunc_size {w : World} {g : Nat} (h : g < w.heap.size) : (trunc w g).heap.size = g := by simp [trunc]; omega
theorem trunc_block {w : World} {g k : Nat} (h : k < g) (hg : g < w.heap.size) : (trunc w g).heap[k]? = w.heap[k]? := by
  simp [trunc, Array.getElem?_extract, h]
  omega
theorem below_trunc {w : World} {g : Nat} (hg : g < w.heap.size) : Below (trunc w g).heap.size (trunc w g) w := by
  refine ⟨rfl, rfl, rfl, by rw [trunc_size hg]; omega, fun i hi => ?_⟩
  rw [trunc_size hg] at hi
  exact (trunc_block hi hg).symm
/-- A row of bytes is read alike where its cells are the same. -/
theorem C_moved {w w1 : World} {A : Option Addr} {bs : List Int} (h : Kd.C (Kd.int .u8) w A bs.length bs) (hb : ∀ a x, w.cell? a = some (.int .u8 x) → w1.cell? a = some (.int .u8 x)) : Kd.C (Kd.int .u8) w1 A bs.length bs := by
  obtain ⟨h1, h2, h3⟩ := h
  refine ⟨h1, h2, fun hp => ?_⟩
  obtain ⟨ad, e, hc⟩ := h3 hp
  refine ⟨ad, e, fun j p hj => ?_⟩
  obtain ⟨c, hl, hK, hcell⟩ := hc j p hj
  refine ⟨c, hl, hK, fun i u hu => ?_⟩
  have hu' := hcell i u hu
  have hcp : c = [.int .u8 p] := hK
  subst hcp
  have : u = .int .u8 p := by
    cases i with
    | zero => simpa using hu.symm
    | succ i => simp at hu
  subst this
  exact hb _ _ hu'
theorem cell_trunc {w : World} {g : Nat} (hg : g < w.heap.size) {a : Addr} {v : Value} : (trunc w g).cell? a = some v ↔ a.block < g ∧ w.cell? a = some v := by
  constructor
  · intro h
    have hlt := World.block_lt_of_cell? _ a h
    rw [trunc_size hg] at hlt
    exact ⟨hlt, by rw [← h]; exact (World.cell?_of_block (trunc_block hlt hg)).symm⟩
  · rintro ⟨hlt, h⟩
    rw [← h]
    exact World.cell?_of_block (trunc_block hlt hg)
/-- A reader at block g (its memory from B on): its bytes, how many were taken, its error. -/
def IsR (w : World) (B g : Nat) (bs : List Int) (p e : Int) : Prop := B ≤ g ∧ ∃ A c, w.heap[g]? = some (.cells #[.slice A bs.length c, .int .i64 p, .int .i64 e] 78 (0, 0)) ∧ bs.length ≤ c ∧ Kd.C (Kd.int .u8) (trunc w g) A bs.length bs
theorem IsR.lt {w : World} {B g : Nat} {bs : List Int} {p e : Int} (h : IsR w B g bs p e) : g < w.heap.size := by
  obtain ⟨_, A, c, hg, _⟩ := h
  exact blk_lt hg
theorem IsR.cells {w : World} {B g : Nat} {bs : List Int} {p e : Int} (h : IsR w B g bs p e) : ∃ A c, w.cell? ⟨g, 0, none⟩ = some (.slice A bs.length c) ∧ w.cell? ⟨g, 1, none⟩ = some (.int .i64 p) ∧ w.cell? ⟨g, 2, none⟩ = some (.int .i64 e) ∧ w.frozen? ⟨g, 1, none⟩ = false ∧ w.frozen? ⟨g, 2, none⟩ = false ∧ bs.length ≤ c ∧ Kd.C (Kd.int .u8) w A bs.length bs := by
  have hlt := h.lt
  obtain ⟨_, A, c, hg, hc, hC⟩ := h
  exact ⟨A, c, blk_cell hg 0, blk_cell hg 1, blk_cell hg 2, blk_frozen hg 1, blk_frozen hg 2, hc, Kd.C_below hC (below_trunc hlt)⟩
/-- The world has changed, but not at the reader and its row. -/
theorem IsR.moved {w w1 : World} {B g : Nat} {bs : List Int} {p e : Int} (h : IsR w B g bs p e) (hg : w1.heap[g]? = w.heap[g]?) (hm : ∀ a x, a.block < g → w.cell? a = some (.int .u8 x) → w1.cell? a = some (.int .u8 x)) : IsR w1 B g bs p e := by
  have hlt := h.lt
  obtain ⟨hB, A, c, hb, hc, hC⟩ := h
  have hb1 := hg.trans hb
  have hlt1 := blk_lt hb1
  refine ⟨hB, A, c, hb1, hc, C_moved hC fun a x hx => ?_⟩
  obtain ⟨h1, h2⟩ := (cell_trunc hlt).1 hx
  exact (cell_trunc hlt1).2 ⟨h1, hm a x h1 h2⟩
theorem IsR.below {w w1 : World} {B B' g : Nat} {bs : List Int} {p e : Int} (h : IsR w B g bs p e) (hb : Below B' w w1) (hgB : g < B') : IsR w1 B g bs p e :=
  h.moved (hb.block g hgB) fun a x ha hx => by rw [← hx]; exact World.cell?_of_block (hb.block a.block (by omega))
theorem IsR.later {w w1 : World} {B g : Nat} {bs : List Int} {p e : Int} (h : IsR w B g bs p e) (hb : Below w.heap.size w w1) : IsR w1 B g bs p e := h.below hb h.lt
theorem IsR.alloc {w : World} {B g : Nat} {bs : List Int} {p e : Int} (h : IsR w B g bs p e) (o : Obj) : IsR (w.alloc o) B g bs p e := h.later (below_alloc (Below.refl _ _) o)
theorem IsR.drew {w : World} {B g : Nat} {bs : List Int} {p e : Int} (h : IsR w B g bs p e) : IsR w.drew B g bs p e := h
theorem IsR.drewN {w : World} {B g : Nat} {bs : List Int} {p e : Int} (h : IsR w B g bs p e) (m : Nat) : IsR (w.drewN m) B g bs p e := h
/-- A cell of the reader's block is set. -/
theorem IsR.setAt {w : World} {B g : Nat} {bs : List Int} {p e : Int} (h : IsR w B g bs p e) (q : Int) : IsR (w.setCell ⟨g, 1, none⟩ (.int .i64 q)) B g bs q e ∧ Below B w (w.setCell ⟨g, 1, none⟩ (.int .i64 q)) ∧ KeepBut w (w.setCell ⟨g, 1, none⟩ (.int .i64 q)) g none := by
  have hlt := h.lt
  obtain ⟨hB, A, c, hb, hc, hC⟩ := h
  have hlt1 : g < (w.setCell ⟨g, 1, none⟩ (.int .i64 q)).heap.size := by rw [World.size_setCell]; exact hlt
  refine ⟨⟨hB, A, c, by rw [blk_set hb 1 _]; rfl, hc, C_moved hC fun a x hx => ?_⟩, (Below.refl B w).setCell (p := ⟨g, 1, none⟩) hB _, by rw [World.size_setCell]; exact Nat.le_refl _, fun i hi hig _ => Below.heap_setCell w ⟨g, 1, none⟩ _ i hig⟩
  obtain ⟨h1, h2⟩ := (cell_trunc hlt).1 hx
  exact (cell_trunc hlt1).2 ⟨h1, by rw [← h2]; exact World.cell?_of_block (Below.heap_setCell w ⟨g, 1, none⟩ _ a.block (by show a.block ≠ g; omega))⟩
theorem IsR.setE {w : World} {B g : Nat} {bs : List Int} {p e : Int} (h : IsR w B g bs p e) (q : Int) : IsR (w.setCell ⟨g, 2, none⟩ (.int .i64 q)) B g bs p q ∧ Below B w (w.setCell ⟨g, 2, none⟩ (.int .i64 q)) ∧ KeepBut w (w.setCell ⟨g, 2, none⟩ (.int .i64 q)) g none := by
  have hlt := h.lt
  obtain ⟨hB, A, c, hb, hc, hC⟩ := h
  have hlt1 : g < (w.setCell ⟨g, 2, none⟩ (.int .i64 q)).heap.size := by rw [World.size_setCell]; exact hlt
  refine ⟨⟨hB, A, c, by rw [blk_set hb 2 _]; rfl, hc, C_moved hC fun a x hx => ?_⟩, (Below.refl B w).setCell (p := ⟨g, 2, none⟩) hB _, by rw [World.size_setCell]; exact Nat.le_refl _, fun i hi hig _ => Below.heap_setCell w ⟨g, 2, none⟩ _ i hig⟩
  obtain ⟨h1, h2⟩ := (cell_trunc hlt).1 hx
  exact (cell_trunc hlt1).2 ⟨h1, by rw [← h2]; exact World.cell?_of_block (Below.heap_setCell w ⟨g, 2, none⟩ _ a.block (by show a.block ≠ g; omega))⟩
/-- What all methods leave: the reader's block alone may have changed. -/
def RKeep (w w' : World) (B g : Nat) : Prop := Below B w w' ∧ KeepBut w w' g none
theorem RKeep.refl (w : World) (B g : Nat) : RKeep w w B g := ⟨Below.refl _ _, KeepBut.refl _ _ _⟩
theorem RKeep.trans {w w1 w2 : World} {B g : Nat} (h : RKeep w w1 B g) (h' : RKeep w1 w2 B g) : RKeep w w2 B g :=
  ⟨h.1.trans h'.1, by have := h.2.1; have := h'.2.1; omega, fun i hi hg hr => (h'.2.2 i (by have := h.2.1; omega) hg hr).trans (h.2.2 i hi hg hr)⟩
theorem RKeep.below {w w1 w2 : World} {B g : Nat} (h : RKeep w w1 B g) (hB : B ≤ w1.heap.size) (hb : Below w1.heap.size w1 w2) : RKeep w w2 B g :=
  h.trans ⟨Below.mono hb hB, hb.size, fun i hi _ _ => hb.block i hi⟩
theorem RKeep.drew {w w1 : World} {B g : Nat} (h : RKeep w w1 B g) : RKeep w w1.drew B g := ⟨below_drew h.1, h.2⟩
theorem RKeep.drewN {w w1 : World} {B g : Nat} (h : RKeep w w1 B g) (n : Nat) : RKeep w (w1.drewN n) B g := ⟨pw_below_drewN h.1 n, h.2⟩
/-- A row in a block of its own, made since, beside the reader. -/
theorem R_rkeep {w w1 : World} {B g base : Nat} {v : Value} {xs : List Int} (hR : Kd.R (Kd.int .u8) 5 w base (fun k => k ≠ g) v xs) (h : RKeep w w1 B g) : Kd.R (Kd.int .u8) 5 w1 base (fun k => k ≠ g) v xs :=
  Kd.R_keep hR h.2 (fun k hk => hk)
theorem cof_calls (A : Option Addr) (n c : Nat) (bs : List Int) (w : World) (hn : n = bs.length) (hr : Kd.C (Kd.int .u8) w A bs.length bs) (hc : bs.length ≤ c) (hl : bs.length < 140737488355328) :
    Calls Tryd.prog 23 #[.slice A n c] w fun e w' => ∃ g, e = .returned (.pointer (some ⟨g, 0, none⟩)) ∧ w.heap.size ≤ g ∧ IsR w' w.heap.size g bs 0 0 ∧ Below w.heap.size w w' := by
  subst hn
  have HR := Lib.hid hr
  have HC := Lib.hid hc
  have HL := Lib.hid hl
  clear hr hc hl
  go_enter Tryd.func23, Tryd.ntmps23
  go_wp2_with fail
  refine (clone_calls A _ c bs _ rfl HR.out HC.out HL.out).mono ?_
  rintro e w1 ⟨v, rfl, hv, hb⟩
  obtain ⟨A', c', rfl, hl', hC'⟩ := Kd.R_reads hv
  have HCC := Lib.hid hC'
  have HLL := Lib.hid hl'
  have HB := Lib.hid hb
  clear hv hl' hC' hb
  go_wp2
  go_ret
  refine ⟨w1.heap.size, rfl, HB.out.size, ⟨HB.out.size, A', c', by simpa using heap_alloc_new w1 _, HLL.out, C_moved HCC.out fun a x hx => ?_⟩, below_alloc HB.out _⟩
  have hlt := World.block_lt_of_cell? _ a hx
  exact (cell_trunc (by simp)).2 ⟨hlt, by rw [← hx]; exact World.cell?_alloc_lt _ _ _ hlt⟩
theorem cleft_calls {w : World} {B g : Nat} {bs : List Int} {p e : Int} (h : IsR w B g bs p e) (hp0 : 0 ≤ p) (hp : p ≤ bs.length) (hl : bs.length ≤ 100000000) : Calls Tryd.prog 40 #[.pointer (some ⟨g, 0, none⟩)] w fun e' w' => e' = .returned (.int .i64 (bs.length - p)) ∧ ∃ n, w' = w.drewN n := by
  obtain ⟨A, c, h0, h1, h2, _, _, _, _⟩ := h.cells
  obtain ⟨m, hm⟩ : ∃ m : Int, (bs.length : Int) - p = m := ⟨_, rfl⟩
  have hw : IntKind.i64.wrap ((bs.length : Int) - p) = m := by rw [IntWalk.i64_in _ (by omega)]; exact hm
  rw [hm]
  clear hm h hp0 hp hl
  go_enter Tryd.func40, Tryd.ntmps40
  go_wp2
  go_quiet (fail)
  go_wp2
  go_ret
  exact ⟨rfl, _, rfl⟩
theorem cfail_calls {w : World} {B g : Nat} {bs : List Int} {p e : Int} (h : IsR w B g bs p e) (q x : Int) : Calls Tryd.prog 54 #[.pointer (some ⟨g, 0, none⟩), .int .i64 q, .int .i64 x] w fun e' w' => e' = .returned (.tuple #[]) ∧ IsR w' B g bs q (if e = 0 then x else e) ∧ RKeep w w' B g := by
  have HW := Lib.hid h
  obtain ⟨A, c, h0, h1, h2, f1, f2, _, _⟩ := h.cells
  clear h
  by_cases he : e = 0
  · have b1 : (e == 0) = true := beq_iff_eq.2 he
    have HE := Lib.hid he
    obtain ⟨k1, k2, k3⟩ := HW.out.setE x
    obtain ⟨k4, k5, k6⟩ := k1.setAt q
    have H := Lib.hid (And.intro k4 (And.intro (k2.trans k5) ((RKeep.trans ⟨k2, k3⟩ ⟨k5, k6⟩ : RKeep w _ B g).2)))
    clear he k1 k2 k3 k4 k5 k6
    go_enter Tryd.func54, Tryd.ntmps54
    go_wp2
    go_end0
    exact ⟨rfl, H.out.1, H.out.2⟩
  · have b1 : (e == 0) = false := beq_eq_false_iff_ne.2 he
    have HE := Lib.hid he
    obtain ⟨k4, k5, k6⟩ := HW.out.setAt q
    have H := Lib.hid (And.intro k4 (And.intro k5 k6))
    clear he k4 k5 k6
    go_enter Tryd.func54, Tryd.ntmps54
    go_wp2
    go_end0
    exact ⟨rfl, H.out.1, H.out.2⟩
end Go.Proofs.YtefnpecncacepaaDoor.Hand

/- The codec's reader: Take and Num. -/
namespace Go.Proofs.YtefnpecncacepaaDoor.Hand
open Go Go.RowKit Go.Proofs.YtefnpecncacepaaDoor.Plain Go.Proofs.YtefnpecncacepaaDoor.PAll Go.Proofs.YtefnpecncacepaaDoorW.PrintWords Go.Proofs.YtefnpecncacepaaDoorW.PrintLast Go.Proofs.YtefnpecncacepaaDoorW.PrintMore
attribute [local go_sem] max2_int min2_int max_two min_two max_three min_three max_four min_four
set_option linter.unusedVariables false
set_option linter.unusedSimpArgs false
/-- A cut out of the middle of a row that lies ahead of a block. -/
theorem mid_cut {w : World} {g c : Nat} {A : Option Addr} {bs : List Int} (hC : Kd.C (Kd.int .u8) (trunc w g) A bs.length bs) (hc : bs.length ≤ c) (p : Nat) (q : Int) (hpq : (p : Int) ≤ q) (hq : q ≤ bs.length) :
    ∃ A' n' c', (∀ W : World, (Instr.slice 28 (.slice A bs.length c) (some (.int .i64 (p : Int))) (some (.int .i64 q)) none).run Tryd.prog W = .ok (.slice A' n' c') W) ∧ n' = ((bs.drop p).take (q.toNat - p)).length ∧ Kd.C (Kd.int .u8) (trunc w g) A' ((bs.drop p).take (q.toNat - p)).length ((bs.drop p).take (q.toNat - p)) ∧ ((bs.drop p).take (q.toNat - p)).length ≤ c' := by
  obtain ⟨i0, hi0, _, hsz0, _⟩ := info_parts info5
  have hsl := cut_mid (P := Tryd.prog) 28 5 .i64 .i64 Tryd.underlying28 hi0 1 hsz0 A bs.length c (p : Int) q (by omega) hpq hq hc
  have hmid := Kd.C_mid (lo := p) (hi := q.toNat) hC (by omega) (by omega) hc
  have e : (bs.take q.toNat).drop p = (bs.drop p).take (q.toNat - p) := by rw [List.drop_take]
  rw [e] at hmid
  refine ⟨_, _, _, hsl, ?_, hmid, ?_⟩
  · simp; omega
  · simp; omega
theorem R_nil_g (w : World) (base : Nat) (ok : Nat → Prop) : Kd.R (Kd.int .u8) 5 w base ok (.slice none 0 0) [] := Kd.R_nil _ _ _ _ _
set_option maxHeartbeats 4000000 in
set_option maxRecDepth 100000 in
theorem ctake_calls {w : World} {B g : Nat} {bs : List Int} {p : Nat} {x : Int} (h : IsR w B g bs (p : Int) x) (hp : p ≤ bs.length) (hl : bs.length ≤ 100000000) (a : Int) (ha : a ≤ 9223372036854775807) :
    Calls Tryd.prog 39 #[.pointer (some ⟨g, 0, none⟩), .int .i64 a] w fun e w' => ∃ v : Value, e = .returned v ∧ Kd.R (Kd.int .u8) 5 w' w.heap.size (fun k => k ≠ g) v (takeR bs p x a).1 ∧ IsR w' B g bs ((takeR bs p x a).2.1 : Nat) (takeR bs p x a).2.2 ∧ RKeep w w' B g := by
  have HW := Lib.hid h
  obtain ⟨A, c, h0, h1, h2, f1, f2, hcap, hC⟩ := h.cells
  obtain ⟨m, hm, hm0, hmN⟩ : ∃ m : Int, (if a < 0 then 0 else a) = m ∧ 0 ≤ m ∧ m.toNat = a.toNat := by
    by_cases h : a < 0
    · exact ⟨0, if_pos h, by omega, by omega⟩
    · exact ⟨a, if_neg h, by omega, rfl⟩
  have HCAP := Lib.hid hcap
  have HC := Lib.hid hC
  have HL := Lib.hid hl
  have HLT := Lib.hid h.lt
  have HBG := Lib.hid h.1
  by_cases hx : x = 0
  · subst hx
    by_cases hs : (bs.length : Int) - p < m
    · have ht : takeR bs p 0 a = ([], p, 2) := by
        unfold takeR
        rw [if_neg (by decide), if_pos (by omega)]
      rw [ht]
      obtain ⟨d, hd⟩ : ∃ d : Int, (bs.length : Int) - p = d := ⟨_, rfl⟩
      have hw1 : IntKind.i64.wrap ((bs.length : Int) - (p : Int)) = d := by rw [IntWalk.i64_in _ (by omega)]; exact hd
      have f3 : decide (d < m) = true := decide_eq_true (by omega)
      clear hd hs ht hcap hC hp hl h hm0 hmN ha
      go_enter Tryd.func39, Tryd.ntmps39
      go_wp2_with fail
      go_quiet (fail)
      have HW1 := Lib.hid (HW.out.drewN nq)
      generalize hq : w.drewN nq = w1 at *
      have HB1 := Lib.hid (show RKeep w w1 B g by rw [← hq]; exact (RKeep.refl w B g).drewN nq)
      have h1' : w1.cell? ⟨g, 1, none⟩ = some (.int .i64 (p : Int)) := by rw [← hq]; exact h1
      clear h0 h1 h2 f1 f2 hq
      go_wp2_with fail
      refine (cfail_calls HW1.out (p : Int) 2).mono ?_
      rintro e w2 ⟨rfl, hw2, hk2⟩
      have HW2 := Lib.hid hw2
      have HK2 := Lib.hid (HB1.out.trans hk2)
      clear hw2 hk2 h1'
      go_wp2
      go_ret
      exact ⟨_, rfl, R_nil_g _ _ _, HW2.out, HK2.out⟩
    · obtain ⟨q, hq, hqN⟩ : ∃ q : Int, (p : Int) + m = q ∧ q.toNat - p = a.toNat := ⟨_, rfl, by omega⟩
      have ht : takeR bs p 0 a = ((bs.drop p).take a.toNat, q.toNat, 0) := by
        unfold takeR
        rw [if_neg (by decide), if_neg (by omega)]
        simp only [Prod.mk.injEq, and_true, true_and]
        omega
      rw [ht]
      obtain ⟨d, hd⟩ : ∃ d : Int, (bs.length : Int) - p = d := ⟨_, rfl⟩
      have hw1 : IntKind.i64.wrap ((bs.length : Int) - (p : Int)) = d := by rw [IntWalk.i64_in _ (by omega)]; exact hd
      have f3 : decide (d < m) = false := decide_eq_false (by omega)
      have hw2 : IntKind.i64.wrap ((p : Int) + m) = q := by rw [IntWalk.i64_in _ (by omega)]; exact hq
      have hw3 : wrap64 ((p : Int) + m) = q := by rw [wrap64_id (by omega) (by omega)]; exact hq
      have hw4 : IntKind.i64.wrap (q - m) = (p : Int) := by rw [IntWalk.i64_in _ (by omega)]; omega
      have HQN := Lib.hid (show ((q.toNat : Nat) : Int) = q by omega)
      obtain ⟨hB, A2, c2, hb2, hc2, hC2⟩ := h
      have hc0 : w.cell? ⟨g, 0, none⟩ = some (.slice A2 bs.length c2) := blk_cell hb2 0
      obtain ⟨eA, ec⟩ : A = A2 ∧ c = c2 := by
        rw [h0] at hc0
        injection hc0 with hc0
        injection hc0 with e1 _ e3
        exact ⟨e1, e3⟩
      subst eA ec
      obtain ⟨A', n', c', hsl, hn', hC', hc'⟩ := mid_cut hC2 hc2 p q (by omega) (by omega)
      rw [hqN] at hn' hC' hc'
      have HYL := Lib.hid (show ((bs.drop p).take a.toNat).length < 140737488355328 by simp; omega)
      generalize (bs.drop p).take a.toNat = ys at hn' hC' hc' HYL
      subst hn'
      have HC' := Lib.hid hC'
      have HCC' := Lib.hid hc'
      clear hd hs ht hcap hC hp hl hm0 hmN ha hc0 hb2 hc2 hC2 hq hqN hC' hc' HC
      go_enter Tryd.func39, Tryd.ntmps39
      go_wp2_with fail
      go_quiet (fail)
      have HW1 := Lib.hid (HW.out.drewN nq)
      have HTR := Lib.hid (pw_below_drewN (below_trunc HW.out.lt) nq)
      generalize hq : w.drewN nq = w1 at *
      have HB1 := Lib.hid (show RKeep w w1 B g by rw [← hq]; exact (RKeep.refl w B g).drewN nq)
      have h1' : w1.cell? ⟨g, 1, none⟩ = some (.int .i64 (p : Int)) := by rw [← hq]; exact h1
      have h0' : w1.cell? ⟨g, 0, none⟩ = some (.slice A bs.length c) := by rw [← hq]; exact h0
      have f1' : w1.frozen? ⟨g, 1, none⟩ = false := by rw [← hq]; exact f1
      have HSZ := Lib.hid (show w.heap.size = w1.heap.size by rw [← hq]; rfl)
      clear h0 h1 h2 f1 f2 hq
      go_wp2_with fail
      obtain ⟨k1, k2, k3⟩ := HW1.out.setAt q
      have g0 : (w1.setCell ⟨g, 1, none⟩ (.int .i64 q)).cell? ⟨g, 0, none⟩ = some (.slice A bs.length c) := by rw [World.cell?_setCell_other _ _ _ _ (by simp)]; exact h0'
      have g1 : (w1.setCell ⟨g, 1, none⟩ (.int .i64 q)).cell? ⟨g, 1, none⟩ = some (.int .i64 q) := World.cell?_setCell_same' _ _ _ (by rw [h1']; rfl)
      have HK1 := Lib.hid k1
      have HB2 := Lib.hid (HB1.out.trans ⟨k2, k3⟩)
      have HCW := Lib.hid (Kd.C_below HC'.out (HTR.out.setCell (p := ⟨g, 1, none⟩) (by rw [trunc_size HLT.out]; exact Nat.le_refl _) (.int .i64 q)))
      have HSZ2 := Lib.hid (show w.heap.size = (w1.setCell ⟨g, 1, none⟩ (.int .i64 q)).heap.size by rw [World.size_setCell]; exact HSZ.out)
      clear k1 k2 k3 h0' h1' f1'
      generalize w1.setCell ⟨g, 1, none⟩ (.int .i64 q) = w2 at *
      go_region_held3 (fun w' => w'.cell? ⟨g, 0, none⟩ = some (.slice A bs.length c) ∧ w'.cell? ⟨g, 1, none⟩ = some (.int .i64 q)) (first | exact ⟨g0, g1⟩ | exact ⟨g0', g1'⟩)
        (first | (go_at_call 37; refine (clone_calls A' _ c' ys _ rfl (Kd.C_drew HCW.out) HCC'.out HYL.out).mono ?_; rintro e w3 ⟨v, rfl, hv, hb⟩; replace hb := below_of_drew hb; have g0' := pw_cell_below hb g0; have g1' := pw_cell_below hb g1; have HV := Lib.hid hv; have HB3 := Lib.hid hb; clear hv hb))
      go_wp2
      go_ret
      refine ⟨_, rfl, ?_, by rw [HQN.out]; exact HK1.out.later HB3.out, HB2.out.below (by have := HBG.out; have := HK1.out.lt; omega) HB3.out⟩
      rw [HSZ2.out]
      refine Kd.R_mono (Kd.R_bound HV.out) (fun k hk => ?_)
      have h1 : w2.heap.size ≤ k := hk.2.1
      have h2 := HK1.out.lt
      omega
  · have ht : takeR bs p x a = ([], p, x) := by unfold takeR; rw [if_pos hx]
    rw [ht]
    have b1 : (x != 0) = true := bne_iff_ne.2 hx
    clear hx ht hcap hC hp hl h hm0 hmN ha
    go_enter Tryd.func39, Tryd.ntmps39
    go_wp2_with fail
    go_ret
    exact ⟨_, rfl, R_nil_g _ _ _, HW.out, RKeep.refl _ _ _⟩
set_option maxHeartbeats 1000000 in
theorem cnumr_calls {w : World} {B g : Nat} {bs : List Int} {p : Nat} {x : Int} (h : IsR w B g bs (p : Int) x) (hb : ∀ y ∈ bs, 0 ≤ y ∧ y < 256) (hp : p ≤ bs.length) (hl : bs.length ≤ 100000000) (a : Int) :
    Calls Tryd.prog 24 #[.pointer (some ⟨g, 0, none⟩), .int .i64 a] w fun e w' => e = .returned (.int .u64 (numR bs p x a).1) ∧ IsR w' B g bs ((numR bs p x a).2.1 : Nat) (numR bs p x a).2.2 ∧ RKeep w w' B g := by
  obtain ⟨m, hm⟩ : ∃ m : Int, mx a 0 = m := ⟨_, rfl⟩
  have em : (if a < 0 then 0 else a) = m := hm
  obtain ⟨q, hq⟩ : ∃ q : Int, mn m 8 = q := ⟨_, rfl⟩
  have eq_ : (if 8 < m then 8 else m) = q := hq
  have hq0 : 0 ≤ q ∧ q ≤ 8 := by rw [← hq, ← hm]; unfold mn mx; constructor <;> (repeat' split) <;> omega
  have hwid : ((wid a : Nat) : Int) = q := by unfold wid; rw [hm, hq]; omega
  unfold numR
  rw [hwid]
  have HT := Lib.hid (ctake_calls h hp hl q (by omega))
  have HB := Lib.hid (takeR_bytes hb p x q)
  have HLN := Lib.hid (takeR_len bs p x q)
  have HQ := Lib.hid hq0
  have HBG := Lib.hid h.1
  obtain ⟨r, hr⟩ : ∃ r, takeR bs p x q = r := ⟨_, rfl⟩
  rw [hr] at HT HB HLN ⊢
  obtain ⟨ys, p2, x2⟩ := r
  simp only at HT HB HLN ⊢
  clear hm hq hq0 hwid h hb hp hl hr
  go_enter Tryd.func24, Tryd.ntmps24
  go_wp2_with fail
  refine HT.out.mono ?_
  rintro e w1 ⟨v, rfl, hv, hw, hk⟩
  obtain ⟨A1, c1, rfl, hc1, hC1⟩ := Kd.R_reads hv
  have HC1 := Lib.hid hC1
  have HCC := Lib.hid hc1
  have HW1 := Lib.hid hw
  have HK1 := Lib.hid hk
  have HY : Hid (ys.length ≤ 8) := Lib.hid (by have := HLN.out; have := HQ.out; omega)
  have HNUM := Lib.hid (num_tells ys HB.out 20 (by omega) (by have := HY.out; omega))
  rw [List.take_of_length_le HY.out] at HNUM
  clear hv hc1 hC1 hw hk em eq_ HT
  go_wp2_with fail
  refine (octet_Num.calls 20 A1 c1 ys _ _ HC1.out HCC.out HNUM.out).mono ?_
  rintro e w2 ⟨rfl, hb⟩
  have HB2 := Lib.hid hb
  clear hb
  go_wp2
  go_ret
  exact ⟨rfl, HW1.out.later HB2.out, HK1.out.below (by have := HBG.out; have := HW1.out.lt; omega) HB2.out⟩
end Go.Proofs.YtefnpecncacepaaDoor.Hand

/- The codec's reader: Var, Text, Hash and End. -/
namespace Go.Proofs.YtefnpecncacepaaDoor.Hand
open Go Go.RowKit Go.Proofs.YtefnpecncacepaaDoor.Plain Go.Proofs.YtefnpecncacepaaDoor.PAll Go.Proofs.YtefnpecncacepaaDoorW.PrintWords Go.Proofs.YtefnpecncacepaaDoorW.PrintLast Go.Proofs.YtefnpecncacepaaDoorW.PrintMore
attribute [local go_sem] max2_int min2_int max_two min_two max_three min_three max_four min_four
set_option linter.unusedVariables false
set_option linter.unusedSimpArgs false
set_option maxHeartbeats 1000000 in
theorem cend_calls {w : World} {B g : Nat} {bs : List Int} {p : Nat} {x : Int} (h : IsR w B g bs (p : Int) x) (hp : p ≤ bs.length) (hl : bs.length ≤ 100000000) :
    Calls Tryd.prog 26 #[.pointer (some ⟨g, 0, none⟩)] w fun e w' => e = .returned (.int .i64 (endR bs p x)) ∧ IsR w' B g bs (p : Int) (endR bs p x) ∧ RKeep w w' B g := by
  obtain ⟨A, c, h0, h1, h2, f1, f2, _, _⟩ := h.cells
  have HW := Lib.hid h
  by_cases c1 : x = 0
  · subst c1
    have HL := Lib.hid (cleft_calls h (by omega) (by omega) hl)
    obtain ⟨d, hd⟩ : ∃ d : Int, (bs.length : Int) - (p : Int) = d := ⟨_, rfl⟩
    rw [hd] at HL
    by_cases c2 : 0 < d
    · have hE : endR bs p 0 = 3 := by unfold endR; rw [if_pos ⟨rfl, by omega⟩]
      rw [hE]
      have f3 : decide (0 < d) = true := decide_eq_true c2
      clear hE c2 hd hp hl h h1 f1
      go_enter Tryd.func26, Tryd.ntmps26
      go_wp2_with fail
      refine HL.out.mono ?_
      rintro e w1 ⟨rfl, n, hn⟩
      have HN := Lib.hid hn
      have h2' : w1.cell? ⟨g, 2, none⟩ = some (.int .i64 0) := by rw [hn]; exact h2
      have f2' : w1.frozen? ⟨g, 2, none⟩ = false := by rw [hn]; exact f2
      obtain ⟨k1, k2, k3⟩ := (show IsR w1 B g bs (p : Int) 0 by rw [hn]; exact HW.out.drewN n).setE 3
      have HW3 := Lib.hid k1
      have HK3 := Lib.hid ((show RKeep w w1 B g by rw [hn]; exact (RKeep.refl w B g).drewN n).trans ⟨k2, k3⟩)
      clear hn k1 k2 k3 h0 h2 f2 HL
      go_wp2
      go_ret
      exact ⟨rfl, HW3.out, HK3.out⟩
    · have hE : endR bs p 0 = 0 := by unfold endR; rw [if_neg (by omega)]
      rw [hE]
      have f3 : decide (0 < d) = false := decide_eq_false c2
      clear hE c2 hd hp hl h h1 f1
      go_enter Tryd.func26, Tryd.ntmps26
      go_wp2_with fail
      refine HL.out.mono ?_
      rintro e w1 ⟨rfl, n, hn⟩
      have h2' : w1.cell? ⟨g, 2, none⟩ = some (.int .i64 0) := by rw [hn]; exact h2
      have HW3 := Lib.hid (show IsR w1 B g bs (p : Int) 0 by rw [hn]; exact HW.out.drewN n)
      have HK3 := Lib.hid (show RKeep w w1 B g by rw [hn]; exact (RKeep.refl w B g).drewN n)
      clear hn h0 h2 f2 HL
      go_wp2
      go_ret
      exact ⟨rfl, HW3.out, HK3.out⟩
  · have hE : endR bs p x = x := by unfold endR; rw [if_neg (fun h => c1 h.1)]
    rw [hE]
    have b1 : (x == 0) = false := beq_eq_false_iff_ne.2 c1
    clear hE c1 hp hl h
    go_enter Tryd.func26, Tryd.ntmps26
    go_wp2_with fail
    go_ret
    exact ⟨rfl, HW.out, RKeep.refl _ _ _⟩
end Go.Proofs.YtefnpecncacepaaDoor.Hand

/- The codec's reader: Hash. -/
namespace Go.Proofs.YtefnpecncacepaaDoor.Hand
open Go Go.RowKit Go.Proofs.YtefnpecncacepaaDoor.Plain Go.Proofs.YtefnpecncacepaaDoor.PAll Go.Proofs.YtefnpecncacepaaDoorW.PrintWords Go.Proofs.YtefnpecncacepaaDoorW.PrintLast Go.Proofs.YtefnpecncacepaaDoorW.PrintMore
set_option linter.unusedVariables false
set_option linter.unusedSimpArgs false
/-- The hash that is read: nought, where bytes lack. -/
def hashR (bs : List Int) (p : Nat) (x : Int) : List Int × Nat × Int := (if (takeR bs p x 32).1.length = 32 then (takeR bs p x 32).1 else List.replicate 32 0, (takeR bs p x 32).2)
def hashV (l : List Int) : Value := .agg (nums .u8 l).toArray
theorem info_hash : (Tryd.prog.info? 24).map (·.size) = some 32 := by kernel_rfl
set_option maxHeartbeats 4000000 in
set_option maxRecDepth 100000 in
theorem chash_calls {w : World} {B g : Nat} {bs : List Int} {p : Nat} {x : Int} (h : IsR w B g bs (p : Int) x) (hp : p ≤ bs.length) (hl : bs.length ≤ 100000000) :
    Calls Tryd.prog 25 #[.pointer (some ⟨g, 0, none⟩)] w fun e w' => e = .returned (hashV (hashR bs p x).1) ∧ IsR w' B g bs ((hashR bs p x).2.1 : Nat) (hashR bs p x).2.2 ∧ RKeep w w' B g := by
  have HT := Lib.hid (fun (w : World) hw => ctake_calls (w := w) (B := B) (g := g) (p := p) (x := x) hw hp hl 32 (by decide))
  have hlen : (takeR bs p x 32).1.length = 32 ∨ (takeR bs p x 32).1.length = 0 := by
    unfold takeR
    split
    · exact .inr rfl
    · split
      · exact .inr rfl
      · refine .inl ?_
        simp
        omega
  unfold hashR
  obtain ⟨r, hr⟩ : ∃ r, takeR bs p x 32 = r := ⟨_, rfl⟩
  rw [hr] at HT hlen ⊢
  obtain ⟨ys, p1, x1⟩ := r
  simp only at HT hlen ⊢
  have HLEN := Lib.hid hlen
  have HRES := Lib.hid (show (if ys.length = 32 then ys else List.replicate 32 0) = ys ++ (List.replicate 32 0).drop ys.length by
    rcases hlen with h | h
    · rw [if_pos h, h]; simp
    · rw [if_neg (by omega), h, List.eq_nil_of_length_eq_zero h]; simp)
  rw [HRES.out]
  obtain ⟨rs, hrs⟩ : ∃ rs, ys ++ (List.replicate 32 0).drop ys.length = rs := ⟨_, rfl⟩
  have HRL := Lib.hid (show rs.length = 32 by rw [← hrs]; simp; omega)
  have HRS := Lib.hid hrs
  rw [hrs]
  clear hrs HRES
  have HW := Lib.hid h
  have HLT := Lib.hid h.lt
  have HBG := Lib.hid h.1
  have HSZ : ys.length ≤ 32 := by omega
  have hsz1 : (Tryd.prog.info? 5).map (·.size) = some 1 := by kernel_rfl
  have HS1 := Lib.hid hsz1
  clear h hr hlen hp hl hsz1
  go_enter Tryd.func25, Tryd.ntmps25
  go_wp2_with fail
  generalize hW2 : World.alloc _ _ = W2
  have hk0 : W2.heap[w.heap.size]? = some (.cells (nums .u8 (List.replicate 32 0)).toArray 24 (0, 0)) := by rw [← hW2]; exact heap_alloc2_old _ _ _
  have hk1 : W2.heap[w.heap.size + 1]? = some (.cells (nums .u8 (List.replicate 32 0)).toArray 24 (0, 0)) := by rw [← hW2]; exact heap_alloc2_new _ _ _
  have HK0 := Lib.hid hk0
  have HK1 := Lib.hid hk1
  have HW2 := Lib.hid (show IsR W2 B g bs (p : Int) x by rw [← hW2]; exact (HW.out.alloc _).alloc _)
  have HB2 := Lib.hid (show RKeep w W2 B g by rw [← hW2]; exact (RKeep.refl w B g).below (by have := HLT.out; have := HBG.out; omega) (below_alloc (below_alloc (Below.refl _ _) _) _))
  have HSZ2 := Lib.hid (show w.heap.size + 1 < W2.heap.size from blk_lt hk1)
  clear hk0 hk1 hW2
  go_region_law (first
     | (go_simp; go_at_call 39; refine (HT.out _ HW2.out.drew).mono ?_; rintro e w3 ⟨v, rfl, hv, hw, hk⟩; obtain ⟨A3, c3, rfl, hc3, hC3⟩ := Kd.R_reads hv; have HC3 := Lib.hid hC3; have HW3 := Lib.hid hw; have HB3 := Lib.hid (HB2.out.drew.trans hk); have HK03 := Lib.hid ((hk.2.2 w.heap.size (by have := HSZ2.out; show w.heap.size < W2.heap.size; omega) (by have := HLT.out; omega) (by simp)).trans HK0.out); have HK13 := Lib.hid ((hk.2.2 (w.heap.size + 1) (by have := HSZ2.out; show w.heap.size + 1 < W2.heap.size; omega) (by have := HLT.out; omega) (by simp)).trans HK1.out); clear hv hw hk hc3 hC3)
     | (refine step_copy_splice (by rfl) (.tmp 4) (.tmp 6) 28 28 (by rfl) 5 Tryd.underlying28 HS1.out (some ⟨w.heap.size + 1, 0, none⟩) A3 32 32 ys.length c3 (by rfl) (by rfl) (w.heap.size + 1) 0 (nums .u8 (List.replicate 32 0)) 24 HK13.out (nums .u8 ys) (by simp only [nums, List.length_map]; exact (Nat.min_eq_left HSZ).symm) (fun hp => ⟨rfl, C_cells HC3.out (by simpa [nums] using hp)⟩) (by simp [nums]; omega) (nums_one _ _) (w.heap.size + 1) w3 (Below.refl _ _) (Nat.le_refl _) ?_; intro w4 hk4 hb4; have HB4 := Lib.hid hb4))
  all_goals
    have hk42 := hk4.out
    have HK4 := Lib.hid (show w4.heap[w.heap.size + 1]? = some (.cells (nums .u8 rs).toArray 24 (0, 0)) by
      rw [hk42, ← HRS.out]
      simp [splice, nums])
    clear hk4 hk42
    have HI := Lib.hid (show (Tryd.prog.info? 24).map (·.size) = some (nums .u8 rs).toArray.size by
      have : (nums .u8 rs).toArray.size = 32 := by simp only [List.size_toArray, nums_length]; exact HRL.out
      rw [this]
      exact info_hash)
    have HK04 := Lib.hid ((HB4.out.block w.heap.size (by omega)).trans HK03.out)
    have HTH := Lib.hid (show w4.there w.heap.size 0 (nums .u8 rs).toArray.size by
      have := there_of_block HK04.out
      have e : (nums .u8 rs).toArray.size = (nums .u8 (List.replicate 32 (0 : Int))).length := by simp only [List.size_toArray, nums_length, HRL.out, List.length_replicate]
      rw [e]
      exact this)
    have HNW := Lib.hid (heap_setCells_all (vs := nums .u8 rs) HK04.out (by simp only [nums_length, HRL.out, List.length_replicate]))
    have HW5 := Lib.hid ((HW3.out.below HB4.out (by have := HLT.out; omega)).below (below_setCells' (B := w.heap.size) (Nat.le_refl _) (nums .u8 rs) 0 w4 (Below.refl _ _)) HLT.out)
    have HB5 := Lib.hid (show RKeep w (w4.setCells w.heap.size 0 (nums .u8 rs)) B g from ⟨HB3.out.1.trans ((Below.mono HB4.out (by have := HLT.out; have := HBG.out; omega)).trans (below_setCells' (by have := HLT.out; have := HBG.out; omega) (nums .u8 rs) 0 w4 (Below.refl _ _))), by have := HB4.out.size; have := HB3.out.2.1; rw [size_setCells']; omega, fun i hi hg _ => by
      rw [heap_setCells_ne _ _ _ _ _ (by omega), HB4.out.block i (by omega)]
      exact HB3.out.2.2 i hi hg (by simp)⟩)
    clear hb4
    go_wp2_with (first | (refine wpList_load_row rfl 24 (.tmp 3) rfl (w.heap.size + 1) rfl 24 _ _ _ HK4.out Tryd.underlying24 rfl HI.out ?_) | (refine wpList_store_mid rfl 24 (.tmp 2) (.tmp 8) rfl w.heap.size 0 (nums .u8 rs).toArray rfl rfl HTH.out HI.out (all_oneCell_toArray (nums_one _ _)) ?_))
    exact bodyPost_ret (results_cell_row rfl _ _ w.heap.size 24 (nums .u8 rs).toArray _ _ rfl HNW.out Tryd.underlying24 rfl HI.out) rfl ⟨rfl, HW5.out, HB5.out⟩
end Go.Proofs.YtefnpecncacepaaDoor.Hand

/- What the document's functions of the codec compute, over lists of bytes. -/
namespace Go.Proofs.YtefnpecncacepaaDoor.Hand
open Go Go.RowKit Go.Proofs.YtefnpecncacepaaDoor.Plain Go.Proofs.YtefnpecncacepaaDoor.PAll Go.Proofs.YtefnpecncacepaaDoorW.PrintWords Go.Proofs.YtefnpecncacepaaDoorW.PrintLast Go.Proofs.YtefnpecncacepaaDoorW.PrintMore
set_option linter.unusedVariables false
set_option linter.unusedSimpArgs false
theorem digits_loop (d : Nat) : ∀ (k n : Nat) (w : Nat) (out : List Int) (i : Nat), n < 18446744073709551616 → w ≤ 8 → out.length ≤ i → i + d = w → d < k →
    mastheadref01_Digits.l0 k (n : Int) (w : Int) out (i : Int) = some (out ++ digs d n) := by
  induction d with
  | zero =>
    intro k n w out i hn hw ho hi hk
    obtain ⟨k, rfl⟩ : ∃ m, k = m + 1 := ⟨k - 1, by omega⟩
    simp only [mastheadref01_Digits.l0]
    rw [if_neg (by omega)]
    simp [digs]
  | succ d ih =>
    intro k n w out i hn hw ho hi hk
    obtain ⟨k, rfl⟩ : ∃ m, k = m + 1 := ⟨k - 1, by omega⟩
    simp only [mastheadref01_Digits.l0]
    have e1 : IntKind.u64.wrap (Int.tdiv (n : Int) 256) = ((n / 256 : Nat) : Int) := by
      have : Int.tdiv (n : Int) 256 = ((n / 256 : Nat) : Int) := by rw [Int.tdiv_eq_ediv_of_nonneg (by omega)]; simp
      rw [this, u64w_id (by omega) (by omega)]
    have e2 : wrap64 (Int.tmod (n : Int) 256) = ((n % 256 : Nat) : Int) := by
      rw [Int.tmod_eq_emod_of_nonneg (by omega), wrap64_id (by omega) (by omega)]; simp
    rw [if_pos (by omega), if_pos (by omega), e1, e2, wrap64_succ (by omega), ih k (n / 256) w _ (i + 1) (by omega) hw (by simp; omega) (by omega) (by omega)]
    simp [digs]
theorem held_tells (w : Int) : mastheadref01_Held.f w = some (wid w : Int) := by
  unfold mastheadref01_Held.f wid mn mx
  repeat' split
  all_goals first | omega | (simp <;> omega)
theorem str_append (a b : List Int) : strOfNums (a ++ b) = strOfNums a ++ strOfNums b := by
  apply ByteArray.ext
  simp [strOfNums, ByteArray.data_append]
theorem str_extract (l : List Int) (a b : Nat) : (strOfNums l).extract a b = strOfNums ((l.drop a).take (b - a)) := by
  apply ByteArray.ext
  apply Array.toList_inj.1
  simp [strOfNums, ByteArray.data_extract, List.extract_eq_take_drop]
theorem str_inj {a b : List Int} (ha : ∀ x ∈ a, 0 ≤ x ∧ x < 256) (hb : ∀ x ∈ b, 0 ≤ x ∧ x < 256) (h : strOfNums a = strOfNums b) : a = b := by
  have h1 : (strOfNums a).data.toList = (strOfNums b).data.toList := by rw [h]
  rw [strOfNums_data, strOfNums_data] at h1
  have hlen : a.length = b.length := by simpa using congrArg List.length h1
  apply List.ext_getElem hlen
  intro i h2 h3
  have h4 : (a.map fun n => UInt8.ofNat n.toNat)[i]'(by simpa using h2) = (b.map fun n => UInt8.ofNat n.toNat)[i]'(by simpa using h3) := by simp only [h1]
  simp only [List.getElem_map] at h4
  have h5 := congrArg UInt8.toNat h4
  have ba := ha a[i] (List.getElem_mem _)
  have bb := hb b[i] (List.getElem_mem _)
  simp only [UInt8.toNat_ofNat'] at h5
  omega
theorem digits_tells (n : Nat) (w : Nat) (hn : n < 18446744073709551616) (hw : w ≤ 8) (k : Nat) (hk : 10 ≤ k) : mastheadref01_Digits.f k (n : Int) (w : Int) = some (digs w n) := by
  unfold mastheadref01_Digits.f
  have := digits_loop w k n w [] 0 hn hw (by simp) (by omega) (by omega)
  simpa using this
theorem rnum_loop (ds : List Int) (hb : ∀ x ∈ ds, 0 ≤ x ∧ x < 256) (hl : ds.length ≤ 8) (d : Nat) : ∀ (k i : Nat), i + d = ds.length → d < k →
    mastheadref06_Num.l0 k (ds.take i) ds (ds.length : Int) (i : Int) = some (strOfNums ds) := by
  induction d with
  | zero =>
    intro k i hi hk
    obtain ⟨k, rfl⟩ : ∃ m, k = m + 1 := ⟨k - 1, by omega⟩
    simp only [mastheadref06_Num.l0]
    rw [if_neg (by omega), List.take_of_length_le (by omega)]
  | succ d ih =>
    intro k i hi hk
    obtain ⟨k, rfl⟩ : ∃ m, k = m + 1 := ⟨k - 1, by omega⟩
    have hil : i < ds.length := by omega
    simp only [mastheadref06_Num.l0]
    have x1 : rd ds (i : Int) = ds[i] := by simp [rd, hil]
    have hx := hb ds[i] (List.getElem_mem hil)
    rw [if_pos (by omega), if_pos (by omega), if_pos (by omega), if_pos (by simp; omega), x1, wrap64_succ (by omega)]
    have e : ds.take i ++ [ds[i] % 256] = ds.take (i + 1) := by
      rw [List.take_succ_eq_append_getElem hil, Int.emod_eq_of_lt hx.1 hx.2]
    rw [e]
    exact ih k (i + 1) (by omega) (by omega)
theorem rnum_tells (n : Nat) (a : Int) (hn : n < 18446744073709551616) (k : Nat) (hk : 10 ≤ k) : mastheadref06_Num.f k (n : Int) a = some (strOfNums (digs (wid a) n)) := by
  unfold mastheadref06_Num.f
  have hw := wid_le a
  rw [held_tells]
  simp only [Option.bind_some]
  rw [digits_tells n (wid a) hn hw k hk]
  simp only [Option.bind_some]
  have := rnum_loop (digs (wid a) n) (digs_bytes _ _) (by rw [digs_length]; exact hw) (digs (wid a) n).length k 0 (by omega) (by rw [digs_length]; omega)
  simpa using this
end Go.Proofs.YtefnpecncacepaaDoor.Hand

/- A header's cells. -/
namespace Go.Proofs.YtefnpecncacepaaDoor.Hand
open Go Go.RowKit Go.Proofs.YtefnpecncacepaaDoor.Plain Go.Proofs.YtefnpecncacepaaDoorW.PrintWords Go.Proofs.YtefnpecncacepaaDoorW.PrintLast Go.Proofs.YtefnpecncacepaaDoorW.PrintMore
set_option linter.unusedVariables false
set_option linter.unusedSimpArgs false
set_option maxRecDepth 100000
theorem list32 {α : Type} (l : List α) (h : l.length = 32) : ∃ x0 x1 x2 x3 x4 x5 x6 x7 x8 x9 x10 x11 x12 x13 x14 x15 x16 x17 x18 x19 x20 x21 x22 x23 x24 x25 x26 x27 x28 x29 x30 x31, l = [x0, x1, x2, x3, x4, x5, x6, x7, x8, x9, x10, x11, x12, x13, x14, x15, x16, x17, x18, x19, x20, x21, x22, x23, x24, x25, x26, x27, x28, x29, x30, x31] := by
  match l, h with
  | [x0, x1, x2, x3, x4, x5, x6, x7, x8, x9, x10, x11, x12, x13, x14, x15, x16, x17, x18, x19, x20, x21, x22, x23, x24, x25, x26, x27, x28, x29, x30, x31], _ => exact ⟨x0, x1, x2, x3, x4, x5, x6, x7, x8, x9, x10, x11, x12, x13, x14, x15, x16, x17, x18, x19, x20, x21, x22, x23, x24, x25, x26, x27, x28, x29, x30, x31, rfl⟩
/-- A header's cells. -/
def hcells (v : Int) (p r : List Int) (t b n : Int) : List Value := .int .u32 v :: (nums .u8 p ++ (nums .u8 r ++ [.int .u32 t, .int .u32 b, .int .u32 n]))
def hV (v : Int) (p r : List Int) (t b n : Int) : Value := .agg (hcells v p r t b n).toArray
theorem hcells_len (v : Int) (p r : List Int) (t b n : Int) (hp : p.length = 32) (hr : r.length = 32) : (hcells v p r t b n).length = 68 := by
  simp [hcells, nums, hp, hr]
def z32 : List Int := List.replicate 32 0
theorem infoH : (Tryd.prog.info? 26).map (fun i => (i.zero, i.size)) = some (some (.agg (hcells 0 z32 z32 0 0 0).toArray), 68) := by kernel_rfl
set_option maxRecDepth 100000 in
theorem built_head (v : Int) (p r : List Int) (hp : p.length = 32) (hr : r.length = 32) : Tryd.prog.built 26 [(0, .int .u32 v), (1, .agg (nums .u8 p).toArray), (2, .agg (nums .u8 r).toArray)] = some (hcells v p r 0 0 0).toArray := by
  obtain ⟨x0, x1, x2, x3, x4, x5, x6, x7, x8, x9, x10, x11, x12, x13, x14, x15, x16, x17, x18, x19, x20, x21, x22, x23, x24, x25, x26, x27, x28, x29, x30, x31, rfl⟩ := list32 p hp
  obtain ⟨y0, y1, y2, y3, y4, y5, y6, y7, y8, y9, y10, y11, y12, y13, y14, y15, y16, y17, y18, y19, y20, y21, y22, y23, y24, y25, y26, y27, y28, y29, y30, y31, rfl⟩ := list32 r hr
  kernel_rfl
theorem built_zero : Tryd.prog.built 26 [] = some (hcells 0 z32 z32 0 0 0).toArray := by kernel_rfl
theorem hcells_at (v : Int) (p r : List Int) (t b n : Int) (hp : p.length = 32) (hr : r.length = 32) : (hcells v p r t b n).toArray[65]? = some (.int .u32 t) ∧ (hcells v p r t b n).toArray[66]? = some (.int .u32 b) ∧ (hcells v p r t b n).toArray[67]? = some (.int .u32 n) := by
  obtain ⟨x0, x1, x2, x3, x4, x5, x6, x7, x8, x9, x10, x11, x12, x13, x14, x15, x16, x17, x18, x19, x20, x21, x22, x23, x24, x25, x26, x27, x28, x29, x30, x31, rfl⟩ := list32 p hp
  obtain ⟨y0, y1, y2, y3, y4, y5, y6, y7, y8, y9, y10, y11, y12, y13, y14, y15, y16, y17, y18, y19, y20, y21, y22, y23, y24, y25, y26, y27, y28, y29, y30, y31, rfl⟩ := list32 r hr
  exact ⟨rfl, rfl, rfl⟩
theorem hcells_set (v : Int) (p r : List Int) (t b n : Int) (hp : p.length = 32) (hr : r.length = 32) : (((hcells v p r 0 0 0).toArray.setIfInBounds 65 (.int .u32 t)).setIfInBounds 66 (.int .u32 b)).setIfInBounds 67 (.int .u32 n) = (hcells v p r t b n).toArray := by
  obtain ⟨x0, x1, x2, x3, x4, x5, x6, x7, x8, x9, x10, x11, x12, x13, x14, x15, x16, x17, x18, x19, x20, x21, x22, x23, x24, x25, x26, x27, x28, x29, x30, x31, rfl⟩ := list32 p hp
  obtain ⟨y0, y1, y2, y3, y4, y5, y6, y7, y8, y9, y10, y11, y12, y13, y14, y15, y16, y17, y18, y19, y20, y21, y22, y23, y24, y25, y26, y27, y28, y29, y30, y31, rfl⟩ := list32 r hr
  rfl
end Go.Proofs.YtefnpecncacepaaDoor.Hand

/- A header's Parse: walked. -/
namespace Go.Proofs.YtefnpecncacepaaDoor.Hand
open Go Go.RowKit Go.Proofs.YtefnpecncacepaaDoor.Plain Go.Proofs.YtefnpecncacepaaDoor.PAll Go.Proofs.YtefnpecncacepaaDoorW.PrintWords Go.Proofs.YtefnpecncacepaaDoorW.PrintLast Go.Proofs.YtefnpecncacepaaDoorW.PrintMore
set_option linter.unusedVariables false
set_option linter.unusedSimpArgs false
set_option maxRecDepth 100000
def h1R (bs : List Int) : Int × Nat × Int := numR bs 0 0 4
def h2R (bs : List Int) : List Int × Nat × Int := hashR bs (h1R bs).2.1 (h1R bs).2.2
def h3R (bs : List Int) : List Int × Nat × Int := hashR bs (h2R bs).2.1 (h2R bs).2.2
def h4R (bs : List Int) : Int × Nat × Int := numR bs (h3R bs).2.1 (h3R bs).2.2 4
def h5R (bs : List Int) : Int × Nat × Int := numR bs (h4R bs).2.1 (h4R bs).2.2 4
def h6R (bs : List Int) : Int × Nat × Int := numR bs (h5R bs).2.1 (h5R bs).2.2 4
def headE (bs : List Int) : Int := endR bs (h6R bs).2.1 (h6R bs).2.2
theorem hashR_le {bs : List Int} {p : Nat} (hp : p ≤ bs.length) (x : Int) : (hashR bs p x).2.1 ≤ bs.length := takeR_le hp _ _
theorem hashR_len (bs : List Int) (p : Nat) (x : Int) : (hashR bs p x).1.length = 32 := by
  unfold hashR
  split
  · assumption
  · simp
theorem hcells_one1 (v : Int) (p r : List Int) (t b n : Int) : ∀ x ∈ hcells v p r t b n, x.oneCell' = true := by
  intro x hx
  simp only [hcells, List.mem_cons, List.mem_append, List.not_mem_nil, or_false] at hx
  rcases hx with rfl | hx | hx | rfl | rfl | rfl
  · rfl
  · exact nums_one _ _ _ hx
  · exact nums_one _ _ _ hx
  · rfl
  · rfl
  · rfl
theorem hsize (v : Int) (p r : List Int) (t b n : Int) (hp : p.length = 32) (hr : r.length = 32) : (Tryd.prog.info? 26).map (·.size) = some (hcells v p r t b n).toArray.size := by
  rw [(zero_of_info infoH).2]
  simp [hcells_len v p r t b n hp hr]
set_option maxHeartbeats 4000000 in
set_option maxRecDepth 100000 in
theorem hparse_calls (A : Option Addr) (c : Nat) (bs : List Int) (w : World) (hr : Kd.C (Kd.int .u8) w A bs.length bs) (hc : bs.length ≤ c) (hb : ∀ x ∈ bs, 0 ≤ x ∧ x < 256) (hl : bs.length ≤ 100000000) :
    Calls Tryd.prog 10 #[.slice A bs.length c] w fun e w' => e = .returned (.tuple #[if headE bs = 0 then hV ((h1R bs).1 % 4294967296) (h2R bs).1 (h3R bs).1 ((h4R bs).1 % 4294967296) ((h5R bs).1 % 4294967296) ((h6R bs).1 % 4294967296) else hV 0 z32 z32 0 0 0, .int .i64 (headE bs)]) ∧ Below w.heap.size w w' := by
  have HR := Lib.hid hr
  have HC := Lib.hid hc
  have HBY := Lib.hid hb
  have HL := Lib.hid hl
  obtain ⟨n, hn⟩ : ∃ n, bs.length = n := ⟨_, rfl⟩
  have HN := Lib.hid hn
  rw [hn]
  obtain ⟨E, hE⟩ : ∃ E, headE bs = E := ⟨_, rfl⟩
  rw [hE]
  obtain ⟨RV, hRV⟩ : ∃ RV, (if E = 0 then hV ((h1R bs).1 % 4294967296) (h2R bs).1 (h3R bs).1 ((h4R bs).1 % 4294967296) ((h5R bs).1 % 4294967296) ((h6R bs).1 % 4294967296) else hV 0 z32 z32 0 0 0) = RV := ⟨_, rfl⟩
  rw [hRV]
  have HE := Lib.hid hE
  have HRV := Lib.hid hRV
  have hz := (zero_of_info infoH).1
  obtain ⟨Z, hZ⟩ : ∃ Z, (hcells 0 z32 z32 0 0 0).toArray = Z := ⟨_, rfl⟩
  rw [hZ] at hz
  have HZ := Lib.hid hZ
  clear hr hc hb hl hZ hE hRV
  go_enter Tryd.func10, Tryd.ntmps10
  go_wp2_with fail
  have HB1 := Lib.hid (below_alloc (Below.refl w.heap.size w) (.cells Z 26))
  have HK1 := Lib.hid (show (w.alloc (.cells Z 26)).heap[w.heap.size]? = some (.cells Z 26 (0, 0)) by simpa using heap_alloc_new w _)
  refine (cof_calls A n c bs _ hn.symm (Kd.C_below HR.out HB1.out) HC.out (by have := HL.out; omega)).mono ?_
  rintro e w1 ⟨g, rfl, hg1, hp1, hb1⟩
  have HP := Lib.hid hp1
  have HB2 := Lib.hid (HB1.out.trans (Below.mono hb1 HB1.out.size))
  have HK2 := Lib.hid ((hb1.block w.heap.size (blk_lt HK1.out)).trans HK1.out)
  have HNE := Lib.hid (show w.heap.size ≠ g by rw [World.size_alloc] at hg1; omega)
  have HSZ := Lib.hid (show w.heap.size ≤ (w.alloc (.cells Z 26)).heap.size from HB1.out.size)
  obtain ⟨B, hB⟩ : ∃ B, (w.alloc (.cells Z 26)).heap.size = B := ⟨_, rfl⟩
  rw [hB] at HP HSZ
  clear hp1 hb1 hg1 HB1 HK1 hn hB
  go_wp2_with fail
  refine (cnumr_calls (p := 0) HP.out HBY.out (Nat.zero_le _) HL.out 4).mono ?_
  rintro e w2 ⟨rfl, hp2, hk2⟩
  have HP2 : Hid (IsR w2 B g bs ((h1R bs).2.1 : Nat) (h1R bs).2.2) := Lib.hid hp2
  have HK3 := Lib.hid (hk2.2.blk HK2.out HNE.out (by simp))
  have HB3 := Lib.hid (HB2.out.trans (Below.mono hk2.1 HSZ.out))
  rw [show (numR bs 0 0 4).1 = (h1R bs).1 from rfl]
  obtain ⟨v1, hv1⟩ : ∃ v, (h1R bs).1 = v := ⟨_, rfl⟩
  rw [hv1]
  have HV1 := Lib.hid hv1
  obtain ⟨V1, hV1⟩ : ∃ V, v1 % 4294967296 = V := ⟨_, rfl⟩
  clear hp2 hk2 HK2 HB2 HP hv1
  go_wp2_with fail
  refine (chash_calls HP2.out (numR_le (Nat.zero_le _) _ _) HL.out).mono ?_
  rintro e w3 ⟨rfl, hp3, hk3⟩
  have HP3 : Hid (IsR w3 B g bs ((h2R bs).2.1 : Nat) (h2R bs).2.2) := Lib.hid hp3
  have HK4 := Lib.hid (hk3.2.blk HK3.out HNE.out (by simp))
  have HB4 := Lib.hid (HB3.out.trans (Below.mono hk3.1 HSZ.out))
  rw [show (hashR bs (h1R bs).2.1 (h1R bs).2.2).1 = (h2R bs).1 from rfl]
  have H2L := Lib.hid (show (h2R bs).1.length = 32 from hashR_len _ _ _)
  have H2P := Lib.hid (show (h2R bs).2.1 ≤ bs.length from hashR_le (numR_le (Nat.zero_le _) _ _) _)
  clear hp3 hk3 HK3 HB3 HP2
  go_wp2_with fail
  refine (chash_calls HP3.out H2P.out HL.out).mono ?_
  rintro e w4 ⟨rfl, hp4, hk4⟩
  have HP4 : Hid (IsR w4 B g bs ((h3R bs).2.1 : Nat) (h3R bs).2.2) := Lib.hid hp4
  have HK5 := Lib.hid (hk4.2.blk HK4.out HNE.out (by simp))
  have HB5 := Lib.hid (HB4.out.trans (Below.mono hk4.1 HSZ.out))
  rw [show (hashR bs (h2R bs).2.1 (h2R bs).2.2).1 = (h3R bs).1 from rfl]
  have H3L := Lib.hid (show (h3R bs).1.length = 32 from hashR_len _ _ _)
  have H3P := Lib.hid (show (h3R bs).2.1 ≤ bs.length from hashR_le H2P.out _)
  obtain ⟨p2, hp2'⟩ : ∃ v, (h2R bs).1 = v := ⟨_, rfl⟩
  obtain ⟨p3, hp3'⟩ : ∃ v, (h3R bs).1 = v := ⟨_, rfl⟩
  rw [hp2', hp3']
  rw [hp2'] at H2L
  rw [hp3'] at H3L
  have HP2' := Lib.hid hp2'
  have HP3' := Lib.hid hp3'
  have hbuilt := built_head V1 p2 p3 H2L.out H3L.out
  have hsz1 := hsize V1 p2 p3 0 0 0 H2L.out H3L.out
  have hzs : Z.size = (hcells V1 p2 p3 0 0 0).toArray.size := by rw [← HZ.out]; simp [hcells_len, H2L.out, H3L.out]; rw [hcells_len _ _ _ _ _ _ (by decide) (by decide)]
  have hone := all_oneCell_toArray (hcells_one1 V1 p2 p3 0 0 0)
  obtain ⟨C1, hC1⟩ : ∃ C, (hcells V1 p2 p3 0 0 0).toArray = C := ⟨_, rfl⟩
  rw [hC1] at hbuilt hsz1 hzs hone
  have HC1 := Lib.hid hC1
  obtain ⟨q2, hq2⟩ : ∃ q, hashV p2 = q := ⟨_, rfl⟩
  obtain ⟨q3, hq3⟩ : ∃ q, hashV p3 = q := ⟨_, rfl⟩
  rw [show (Value.agg (nums .u8 p2).toArray) = q2 from hq2, show (Value.agg (nums .u8 p3).toArray) = q3 from hq3] at hbuilt
  rw [hq2, hq3]
  have HBUILT := Lib.hid hbuilt
  have HS1 := Lib.hid hsz1
  have HZS := Lib.hid hzs
  have HONE := Lib.hid hone
  clear hp4 hk4 HK4 HB4 HP3 hp2' hp3' hC1 hq2 hq3 hbuilt hsz1 hzs hone
  go_wp2_with (first | (refine wpl_build rfl 26 _ rfl #[(0, .int .u32 V1), (1, q2), (2, q3)] (by first | rfl | (simp [Act.eval]; done) | (go_simp; done)) C1 HBUILT.out ?_) | (refine wpl_store_new rfl 26 (.tmp 5) (.tmp 16) rfl Z C1 rfl rfl HS1.out HZS.out HONE.out ?_))
  have HK6 := Lib.hid (blk_alloc HK5.out (.cells C1 26))
  have HB6 := Lib.hid (below_alloc HB5.out (.cells C1 26))
  have HH6 := Lib.hid (show (w4.alloc (.cells C1 26)).heap[w4.heap.size]? = some (.cells C1 26 (0, 0)) by simpa using heap_alloc_new w4 _)
  have HP6 := Lib.hid (HP4.out.alloc (.cells C1 26))
  have HGH := Lib.hid (show g < w4.heap.size from HP4.out.lt)
  clear HK5 HB5 HP4
  refine (cnumr_calls HP6.out HBY.out H3P.out HL.out 4).mono ?_
  rintro e w7 ⟨rfl, hp7, hk7⟩
  have HP7 : Hid (IsR w7 B g bs ((h4R bs).2.1 : Nat) (h4R bs).2.2) := Lib.hid hp7
  have HK7 := Lib.hid (hk7.2.blk HK6.out HNE.out (by simp))
  have HH7 := Lib.hid (hk7.2.blk HH6.out (by have := HGH.out; omega) (by simp))
  have HB7 := Lib.hid (HB6.out.trans (Below.mono hk7.1 HSZ.out))
  have H4P := Lib.hid (show (h4R bs).2.1 ≤ bs.length from numR_le H3P.out _ _)
  rw [show (numR bs (h3R bs).2.1 (h3R bs).2.2 4).1 = (h4R bs).1 from rfl]
  obtain ⟨v4, hv4⟩ : ∃ v, (h4R bs).1 = v := ⟨_, rfl⟩
  rw [hv4]
  have HV4 := Lib.hid hv4
  obtain ⟨V4, hV4⟩ : ∃ V, v4 % 4294967296 = V := ⟨_, rfl⟩
  clear hp7 hk7 HK6 HB6 HH6 HP6 hv4
  go_wp2_with fail
  refine (cnumr_calls HP7.out HBY.out H4P.out HL.out 4).mono ?_
  rintro e w8 ⟨rfl, hp8, hk8⟩
  have HP8 : Hid (IsR w8 B g bs ((h5R bs).2.1 : Nat) (h5R bs).2.2) := Lib.hid hp8
  have HK8 := Lib.hid (hk8.2.blk HK7.out HNE.out (by simp))
  have HH8 := Lib.hid (hk8.2.blk HH7.out (by have := HGH.out; omega) (by simp))
  have HB8 := Lib.hid (HB7.out.trans (Below.mono hk8.1 HSZ.out))
  have H5P := Lib.hid (show (h5R bs).2.1 ≤ bs.length from numR_le H4P.out _ _)
  rw [show (numR bs (h4R bs).2.1 (h4R bs).2.2 4).1 = (h5R bs).1 from rfl]
  obtain ⟨v5, hv5⟩ : ∃ v, (h5R bs).1 = v := ⟨_, rfl⟩
  rw [hv5]
  have HV5 := Lib.hid hv5
  obtain ⟨V5, hV5⟩ : ∃ V, v5 % 4294967296 = V := ⟨_, rfl⟩
  clear hp8 hk8 HK7 HB7 HH7 HP7 hv5
  go_wp2_with fail
  refine (cnumr_calls HP8.out HBY.out H5P.out HL.out 4).mono ?_
  rintro e w9 ⟨rfl, hp9, hk9⟩
  have HP9 : Hid (IsR w9 B g bs ((h6R bs).2.1 : Nat) (h6R bs).2.2) := Lib.hid hp9
  have HK9 := Lib.hid (hk9.2.blk HK8.out HNE.out (by simp))
  have HH9 := Lib.hid (hk9.2.blk HH8.out (by have := HGH.out; omega) (by simp))
  have HB9 := Lib.hid (HB8.out.trans (Below.mono hk9.1 HSZ.out))
  have H6P := Lib.hid (show (h6R bs).2.1 ≤ bs.length from numR_le H5P.out _ _)
  rw [show (numR bs (h5R bs).2.1 (h5R bs).2.2 4).1 = (h6R bs).1 from rfl]
  obtain ⟨v6, hv6⟩ : ∃ v, (h6R bs).1 = v := ⟨_, rfl⟩
  rw [hv6]
  have HV6 := Lib.hid hv6
  obtain ⟨V6, hV6⟩ : ∃ V, v6 % 4294967296 = V := ⟨_, rfl⟩
  obtain ⟨gh, hgh⟩ : ∃ b, w4.heap.size = b := ⟨_, rfl⟩
  rw [hgh] at HH9 HGH ⊢
  obtain ⟨a5, a6, a7⟩ := hcells_at V1 p2 p3 0 0 0 H2L.out H3L.out
  rw [HC1.out] at a5 a6 a7
  have c5 := (blk_cell HH9.out 65).trans a5
  have c6 := (blk_cell HH9.out 66).trans a6
  have c7 := (blk_cell HH9.out 67).trans a7
  have f5 := blk_frozen HH9.out 65
  have f6 := blk_frozen HH9.out 66
  have f7 := blk_frozen HH9.out 67
  have hset := hcells_set V1 p2 p3 V4 V5 V6 H2L.out H3L.out
  rw [HC1.out] at hset
  obtain ⟨W9, hW9⟩ : ∃ W, ((w9.setCell ⟨gh, 65, none⟩ (.int .u32 V4)).setCell ⟨gh, 66, none⟩ (.int .u32 V5)).setCell ⟨gh, 67, none⟩ (.int .u32 V6) = W := ⟨_, rfl⟩
  have HHS : Hid (W9.heap[gh]? = some (.cells (hcells V1 p2 p3 V4 V5 V6).toArray 26 (0, 0))) := Lib.hid (by rw [← hW9, ← hset]; exact blk_set (blk_set (blk_set HH9.out 65 _) 66 _) 67 _)
  have HBS : Hid (Below (g + 1) w9 W9) := Lib.hid (by rw [← hW9]; exact (((Below.refl _ _).setCell (p := ⟨gh, 65, none⟩) (by have := HGH.out; show g + 1 ≤ gh; omega) _).setCell (p := ⟨gh, 66, none⟩) (by have := HGH.out; show g + 1 ≤ gh; omega) _).setCell (p := ⟨gh, 67, none⟩) (by have := HGH.out; show g + 1 ≤ gh; omega) _)
  have hgr : w.heap.size < g + 1 := by have := HP9.out.1; have := HSZ.out; omega
  have HKS : Hid (W9.heap[w.heap.size]? = some (.cells Z 26 (0, 0))) := Lib.hid ((HBS.out.block w.heap.size hgr).trans HK9.out)
  have HPS := Lib.hid (HP9.out.below HBS.out (by omega))
  have HBW := Lib.hid (HB9.out.trans (Below.mono HBS.out (by omega)))
  have HW9 := Lib.hid hW9
  obtain ⟨CF, hCF⟩ : ∃ C, (hcells V1 p2 p3 V4 V5 V6).toArray = C := ⟨_, rfl⟩
  rw [hCF] at HHS
  have HCF := Lib.hid hCF
  clear hp9 hk9 HK8 HB8 HH8 HP8 hv6 hgh a5 a6 a7 hset hgr hW9 hCF
  go_wp2_with fail
  rw [HW9.out]
  have HCE := Lib.hid (cend_calls HPS.out H6P.out HL.out)
  rw [show endR bs (h6R bs).2.1 (h6R bs).2.2 = headE bs from rfl, HE.out] at HCE
  refine HCE.out.mono ?_
  rintro e w10 ⟨rfl, hp10, hk10⟩
  have HK10 := Lib.hid (hk10.2.blk HKS.out HNE.out (by simp))
  have HH10 := Lib.hid (hk10.2.blk HHS.out (by have := HGH.out; omega) (by simp))
  have HB10 := Lib.hid (HBW.out.trans (Below.mono hk10.1 HSZ.out))
  have HU := Lib.hid Tryd.underlying26
  clear hp10 hk10 c5 c6 c7 f5 f6 f7 HCE HBUILT
  by_cases h0 : E = 0
  · have HSF := Lib.hid (show (Tryd.prog.info? 26).map (·.size) = some CF.size by rw [← HCF.out]; exact hsize _ _ _ _ _ _ H2L.out H3L.out)
    have HZF := Lib.hid (show Z.size = CF.size by rw [← HZ.out, ← HCF.out]; simp [hcells_len, H2L.out, H3L.out]; rw [hcells_len _ _ _ _ _ _ (by decide) (by decide)])
    have HOF := Lib.hid (show CF.all (·.oneCell') = true by rw [← HCF.out]; exact all_oneCell_toArray (hcells_one1 _ _ _ _ _ _))
    have hRF : RV = .agg CF := by rw [← HRV.out, if_pos h0, hV, HV1.out, HP2'.out, HP3'.out, HV4.out, HV5.out, HV6.out, hV1, hV4, hV5, hV6, HCF.out]
    clear HRV HE
    subst h0
    subst hRF
    go_wp2_with (first | (refine wpList_load_row rfl 26 (.tmp 5) rfl gh rfl 26 CF (0, 0) _ HH10.out HU.out rfl HSF.out ?_) | (refine wpList_store_row rfl 26 (.tmp 2) (.tmp 35) rfl w.heap.size CF rfl rfl 26 Z HK10.out HSF.out HZF.out HOF.out ?_))
    exact bodyPost_ret (results_ct rfl _ _ w.heap.size 26 CF (0, 0) _ rfl (setRow_heap _ _ _ _ _ _ HK10.out) HU.out rfl HSF.out) rfl ⟨rfl, below_setRow HB10.out (Nat.le_refl _) _⟩
  · have x1 : (E = 0) = False := eq_false h0
    have x2 : (E == 0) = false := by simpa using h0
    have x3 : (E != 0) = true := by simpa using h0
    have HBZ := Lib.hid built_zero
    rw [HZ.out] at HBZ
    have HSF := Lib.hid (show (Tryd.prog.info? 26).map (·.size) = some Z.size by rw [← HZ.out]; exact hsize _ _ _ _ _ _ (by decide) (by decide))
    have HOF := Lib.hid (show Z.all (·.oneCell') = true by rw [← HZ.out]; exact all_oneCell_toArray (hcells_one1 _ _ _ _ _ _))
    have hRF : RV = .agg Z := by rw [← HRV.out, if_neg h0, hV, HZ.out]
    clear h0 HRV
    subst hRF
    go_wp2_with (first | (refine wpl_build rfl 26 _ rfl #[] (by first | rfl | (simp [Act.eval]; done) | (go_simp; done)) Z HBZ.out ?_) | (refine wpList_store_row rfl 26 (.tmp 2) (.tmp 33) rfl w.heap.size Z rfl rfl 26 Z HK10.out HSF.out rfl HOF.out ?_))
    exact bodyPost_ret (results_ct rfl _ _ w.heap.size 26 Z (0, 0) _ rfl (setRow_heap _ _ _ _ _ _ HK10.out) HU.out rfl HSF.out) rfl ⟨rfl, below_setRow HB10.out (Nat.le_refl _) _⟩
end Go.Proofs.YtefnpecncacepaaDoor.Hand

/- A header's Bytes: walked. -/
namespace Go.Proofs.YtefnpecncacepaaDoor.Hand
open Go Go.RowKit Go.Proofs.YtefnpecncacepaaDoor.Plain Go.Proofs.YtefnpecncacepaaDoor.PAll Go.Proofs.YtefnpecncacepaaDoorW.PrintWords Go.Proofs.YtefnpecncacepaaDoorW.PrintLast Go.Proofs.YtefnpecncacepaaDoorW.PrintMore
set_option linter.unusedVariables false
set_option linter.unusedSimpArgs false
set_option maxRecDepth 100000
attribute [local go_sem ↓] Go.wp_at_zero Go.wp_at_succ
/-- A header's bytes. -/
def headB (v : Int) (p r : List Int) (t b n : Int) : List Int := digs 4 v.toNat ++ (p ++ r) ++ digs 4 t.toNat ++ digs 4 b.toNat ++ digs 4 n.toNat
def preB (v : Int) (p r : List Int) (t b n : Int) : Nat → List Int
  | 0 => digs 4 v.toNat ++ (p ++ r)
  | 1 => digs 4 v.toNat ++ (p ++ r) ++ digs 4 t.toNat
  | 2 => digs 4 v.toNat ++ (p ++ r) ++ digs 4 t.toNat ++ digs 4 b.toNat
  | _ => headB v p r t b n
theorem preB_len (v : Int) (p r : List Int) (t b n : Int) (k : Nat) (hp : p.length = 32) (hr : r.length = 32) : (preB v p r t b n k).length ≤ 1000000 := by
  unfold preB
  split <;> simp [headB, digs_length, hp, hr]
theorem wid4h : wid 4 = 4 := by decide
theorem hcells_at0 (v : Int) (p r : List Int) (t b n : Int) : (hcells v p r t b n).toArray[0]? = some (.int .u32 v) := rfl
/-- The two hashes' rows in the box. -/
theorem hash_rows {w : World} {bx : Nat} {v : Int} {p r : List Int} {t b n : Int} (hp : p.length = 32) (hr : r.length = 32) (h : w.heap[bx]? = some (.cells (hcells v p r t b n).toArray 26 (0, 0))) : Kd.C (Kd.int .u8) w (some ⟨bx, 1, none⟩) 32 p ∧ Kd.C (Kd.int .u8) w (some ⟨bx, 33, none⟩) 32 r := by
  have h1 := C_of_block (pre := [.int .u32 v]) (post := nums .u8 r ++ [.int .u32 t, .int .u32 b, .int .u32 n]) (k := .u8) (ys := p) (o := 1) (w := w) (b := bx) (t := 26) (fr := (0, 0)) (by rw [h]; rfl) rfl (by omega)
  have h2 := C_of_block (pre := .int .u32 v :: nums .u8 p) (post := [.int .u32 t, .int .u32 b, .int .u32 n]) (k := .u8) (ys := r) (o := 33) (w := w) (b := bx) (t := 26) (fr := (0, 0)) (by rw [h]; rfl) (by simp [nums, hp]) (by omega)
  rw [hp] at h1
  rw [hr] at h2
  exact ⟨h1, h2⟩
/-- A row of the two. -/
theorem two_rows {w : World} {bx k : Nat} {p r : List Int} {tt : TypeId} {fr : Nat × Nat} (hp : p.length = 32) (hr : r.length = 32) (h1 : Kd.C (Kd.int .u8) w (some ⟨bx, 1, none⟩) 32 p) (h2 : Kd.C (Kd.int .u8) w (some ⟨bx, 33, none⟩) 32 r) (hk : w.heap[k]? = some (.cells #[.slice (some ⟨bx, 1, none⟩) 32 32, .slice (some ⟨bx, 33, none⟩) 32 32] tt fr)) :
    Kd.C (Kd.slice 5 (Kd.int .u8)) w (some ⟨k, 0, none⟩) 2 [p, r] := by
  refine ⟨rfl, by decide, fun _ => ⟨_, rfl, fun j x hj => ?_⟩⟩
  have hadd : ∀ i, (⟨k, 0, none⟩ : Addr).add i = ⟨k, i, none⟩ := fun i => by unfold Addr.add; split <;> simp_all
  match j, hj with
  | 0, hj =>
    obtain rfl : p = x := Option.some.inj hj
    refine ⟨[.slice (some ⟨bx, 1, none⟩) 32 32], rfl, ⟨_, 32, by rw [hp], by omega, by rw [hp]; exact h1⟩, fun i u hu => ?_⟩
    match i, hu with
    | 0, hu =>
      obtain rfl := Option.some.inj hu
      rw [hadd]
      simp [World.cell?, hk]
    | i + 1, hu => simp at hu
  | 1, hj =>
    obtain rfl : r = x := Option.some.inj hj
    refine ⟨[.slice (some ⟨bx, 33, none⟩) 32 32], rfl, ⟨_, 32, by rw [hr], by omega, by rw [hr]; exact h2⟩, fun i u hu => ?_⟩
    match i, hu with
    | 0, hu =>
      obtain rfl := Option.some.inj hu
      rw [hadd]
      simp [World.cell?, hk]
      rfl
    | i + 1, hu => simp at hu
  | j + 2, hj => simp at hj
set_option maxHeartbeats 4000000 in
set_option maxRecDepth 100000 in
theorem hbytes_calls (v : Int) (p r : List Int) (t b n : Int) (w : World) (hp : p.length = 32) (hr : r.length = 32) (hv0 : 0 ≤ v) (hv1 : v < 4294967296) (ht0 : 0 ≤ t) (ht1 : t < 4294967296) (hb0 : 0 ≤ b) (hb1 : b < 4294967296) (hn0 : 0 ≤ n) (hn1 : n < 4294967296) :
    Calls Tryd.prog 8 #[hV v p r t b n] w fun e w' => ∃ x, e = .returned x ∧ Kd.R (Kd.int .u8) 5 w' w.heap.size (fun _ => True) x (headB v p r t b n) ∧ Below w.heap.size w w' := by
  have HP := Lib.hid hp
  have HR := Lib.hid hr
  have HV0 := Lib.hid hv0
  have HT0 := Lib.hid ht0
  have HB0 := Lib.hid hb0
  have HN0 := Lib.hid hn0
  obtain ⟨C, hC⟩ : ∃ C, (hcells v p r t b n).toArray = C := ⟨_, rfl⟩
  have hV1 : hV v p r t b n = .agg C := by rw [hV, hC]
  rw [hV1]
  have HC := Lib.hid hC
  have wv : v % 18446744073709551616 = v := by omega
  have wt : t % 18446744073709551616 = t := by omega
  have wb : b % 18446744073709551616 = b := by omega
  have wn : n % 18446744073709551616 = n := by omega
  have wv' : IntKind.u64.wrap v = v := u64w_id (by omega) (by omega)
  have wt' : IntKind.u64.wrap t = t := u64w_id (by omega) (by omega)
  have wb' : IntKind.u64.wrap b = b := u64w_id (by omega) (by omega)
  have wn' : IntKind.u64.wrap n = n := u64w_id (by omega) (by omega)
  obtain ⟨W1, hW1⟩ : ∃ W1, w.alloc (.cells C 26) = W1 := ⟨_, rfl⟩
  have HB1 : Hid (Below w.heap.size w W1) := Lib.hid (by rw [← hW1]; exact below_alloc (Below.refl _ _) _)
  have HK1 : Hid (W1.heap[w.heap.size]? = some (.cells C 26 (0, 0))) := Lib.hid (by rw [← hW1]; simpa using heap_alloc_new w _)
  have HW1 := Lib.hid hW1
  obtain ⟨bx, hbx⟩ : ∃ k, w.heap.size = k := ⟨_, rfl⟩
  have HBX := Lib.hid hbx
  rw [hbx] at HK1
  have HCELL := Lib.hid (show ∀ W, Below W1.heap.size W1 W → W.heap[bx]? = some (.cells C 26 (0, 0)) ∧ W.cell? ⟨bx, 0, none⟩ = some (.int .u32 v) ∧ W.cell? ⟨bx, 65, none⟩ = some (.int .u32 t) ∧ W.cell? ⟨bx, 66, none⟩ = some (.int .u32 b) ∧ W.cell? ⟨bx, 67, none⟩ = some (.int .u32 n) from fun W hb => by
    have h := (hb.block bx (blk_lt HK1.out)).trans HK1.out
    obtain ⟨a5, a6, a7⟩ := hcells_at v p r t b n hp hr
    have a0 := hcells_at0 v p r t b n
    rw [hC] at a0 a5 a6 a7
    exact ⟨h, (blk_cell h 0).trans a0, (blk_cell h 65).trans a5, (blk_cell h 66).trans a6, (blk_cell h 67).trans a7⟩)
  clear hp hr hv0 hv1 ht0 ht1 hb0 hb1 hn0 hn1 hC hV1 hW1
  go_enter Tryd.func8, Tryd.ntmps8
  go_wp2_with fail
  rw [HW1.out]
  refine (cnew_calls _).mono ?_
  rintro e w1 ⟨rfl, hw, hb⟩
  have HIS := Lib.hid hw
  have HB2 := Lib.hid hb
  clear hw hb
  obtain ⟨k0, k1, k2, k3, k4⟩ := HCELL.out _ HB2.out
  clear k0
  go_wp2_with fail
  refine (cnum_int v 4 HV0.out HIS.out (by decide)).mono ?_
  rintro e w2 ⟨rfl, hw, hb, _⟩
  have HIS2 := Lib.hid hw
  have HB3 := Lib.hid (HB2.out.trans hb)
  clear hw hb HIS HB2 k1 k2 k3 k4
  have HPUT := Lib.hid (show Calls Tryd.prog 21 #[.pointer (some ⟨W1.heap.size, 0, none⟩), .slice (some ⟨w2.heap.size, 0, none⟩) 2 2] (w2.alloc (.cells #[.slice (some ⟨bx, 1, none⟩) 32 32, .slice (some ⟨bx, 33, none⟩) 32 32] 28)).drew fun e w' => e = .returned (.tuple #[]) ∧ IsC w' W1.heap.size W1.heap.size (digs 4 v.toNat ++ (p ++ r)) ∧ Below W1.heap.size W1 w' from by
    have hbd := below_drew (below_alloc HB3.out (.cells #[.slice (some ⟨bx, 1, none⟩) 32 32, .slice (some ⟨bx, 33, none⟩) 32 32] 28))
    have hisA := (HIS2.out.alloc (.cells #[.slice (some ⟨bx, 1, none⟩) 32 32, .slice (some ⟨bx, 33, none⟩) 32 32] 28)).drew
    have hk : (w2.alloc (.cells #[.slice (some ⟨bx, 1, none⟩) 32 32, .slice (some ⟨bx, 33, none⟩) 32 32] 28)).drew.heap[w2.heap.size]? = some (.cells #[.slice (some ⟨bx, 1, none⟩) 32 32, .slice (some ⟨bx, 33, none⟩) 32 32] 28 (0, 0)) := (by simpa using heap_alloc_new w2 _ : (w2.alloc (.cells #[.slice (some ⟨bx, 1, none⟩) 32 32, .slice (some ⟨bx, 33, none⟩) 32 32] 28)).heap[w2.heap.size]? = some (.cells #[.slice (some ⟨bx, 1, none⟩) 32 32, .slice (some ⟨bx, 33, none⟩) 32 32] 28 (0, 0)))
    refine (cput_calls (some ⟨w2.heap.size, 0, none⟩) 2 [p, r] hisA (fun W' hb' hk' => ?_) (by simp) (by simp [digs_length, HP.out, HR.out, wid4h])).mono ?_
    · have hW' := HCELL.out W' (hbd.trans hb')
      have h28 := hW'.1
      rw [← HC.out] at h28
      obtain ⟨r1, r2⟩ := hash_rows HP.out HR.out h28
      have hne : w2.heap.size ≠ W1.heap.size := by have := HIS2.out.lt; omega
      exact two_rows HP.out HR.out r1 r2 (hk'.blk hne (hisA.row hk (by decide)) hk)
    · rintro e w' ⟨rfl, h1, h2, _⟩
      refine ⟨rfl, ?_, hbd.trans h2⟩
      simpa [wid4h] using h1)
  go_wp2_with fail
  go_region_law (go_simp; go_at_call 21; with_reducible refine HPUT.out.mono ?_; rintro e w3 ⟨rfl, hw3, hb3⟩; have HIS3 := Lib.hid hw3; have HB4 := Lib.hid hb3; clear hw3 hb3)
  all_goals
    clear HPUT HIS2 HB3
    obtain ⟨k0, k1, k2, k3, k4⟩ := HCELL.out _ HB4.out
    clear k0
    go_wp2_with fail
    clear k1 k2 k3 k4
    go_loopw [26] (fun i wr => ∃ k : Int, 0 ≤ k ∧ k ≤ 3 ∧ i = .int .i64 k ∧ Hid (IsC wr W1.heap.size W1.heap.size (preB v p r t b n k.toNat) ∧ Below W1.heap.size W1 wr)) (fun i _ => (3 - intOf i).toNat)
    case atStart => exact ⟨0, by omega, by omega, rfl, Lib.hid ⟨HIS3.out, HB4.out⟩⟩
    case round =>
      obtain ⟨k, hk0, hk3, rfl, H⟩ := hrel
      obtain ⟨hw, hb⟩ := H.out
      have HIS5 := Lib.hid hw
      have HB5 := Lib.hid hb
      have hix : ∀ (W : World) (j : Nat) (x : Int), (#[.int .u32 t, .int .u32 b, .int .u32 n] : Array Value)[j]? = some (.int .u32 x) → j < 3 → (Instr.index 53 (.agg #[.int .u32 t, .int .u32 b, .int .u32 n]) (.int .i64 j)).run Tryd.prog W = .ok (.int .u32 x) W := fun W j x hj hj3 => by
        have z3 : (sizeOf 22).run Tryd.prog W = .ok 1 W := by rfl
        have a3 : (isAgg 22).run Tryd.prog W = .ok false W := by simp [isAgg, run_underlying Tryd.underlying22]
        unfold Instr.index
        simp only [asIntOf, run_underlying Tryd.underlying53, Sem.run_bind, Sem.run_pure, Result.andThen_ok]
        match j, hj, hj3 with
        | 0, hj, _ => (obtain rfl := (by simpa using hj : t = x)); simp [part, z3, a3]
        | 1, hj, _ => (obtain rfl := (by simpa using hj : b = x)); simp [part, z3, a3]
        | 2, hj, _ => (obtain rfl := (by simpa using hj : n = x)); simp [part, z3, a3]
      have hway : k = 0 ∨ k = 1 ∨ k = 2 ∨ k = 3 := by omega
      clear hw hb H
      rcases hway with rfl | rfl | rfl | rfl
      · have hx := fun W => hix W 0 t rfl (by decide)
        simp only [Int.natCast_zero] at hx
        clear hix
        go_wp2_with fail
        refine (cnum_int t 4 HT0.out HIS5.out (preB_len _ _ _ _ _ _ _ HP.out HR.out)).mono ?_
        rintro e w6 ⟨rfl, hw6, hb6, _⟩
        have HIS6 := Lib.hid hw6
        have HB6 := Lib.hid (HB5.out.trans hb6)
        clear hw6 hb6
        go_wp2
        go_roundw
        case rel => exact ⟨1, by omega, by omega, by first | rfl | simp, Lib.hid ⟨by simpa [preB, wid4h, List.append_assoc] using HIS6.out, HB6.out⟩⟩
        case measure => simp [intOf]
      · have hx := fun W => hix W 1 b rfl (by decide)
        simp only [Int.natCast_one] at hx
        clear hix
        go_wp2_with fail
        refine (cnum_int b 4 HB0.out HIS5.out (preB_len _ _ _ _ _ _ _ HP.out HR.out)).mono ?_
        rintro e w6 ⟨rfl, hw6, hb6, _⟩
        have HIS6 := Lib.hid hw6
        have HB6 := Lib.hid (HB5.out.trans hb6)
        clear hw6 hb6
        go_wp2
        go_roundw
        case rel => exact ⟨2, by omega, by omega, by first | rfl | simp, Lib.hid ⟨by simpa [preB, wid4h, List.append_assoc] using HIS6.out, HB6.out⟩⟩
        case measure => simp [intOf]
      · have hx := fun W => hix W 2 n rfl (by decide)
        simp only [show ((2 : Nat) : Int) = 2 from rfl] at hx
        clear hix
        go_wp2_with fail
        refine (cnum_int n 4 HN0.out HIS5.out (preB_len _ _ _ _ _ _ _ HP.out HR.out)).mono ?_
        rintro e w6 ⟨rfl, hw6, hb6, _⟩
        have HIS6 := Lib.hid hw6
        have HB6 := Lib.hid (HB5.out.trans hb6)
        clear hw6 hb6
        go_wp2
        go_roundw
        case rel => exact ⟨3, by omega, by omega, by first | rfl | simp, Lib.hid ⟨by simpa [preB, headB, wid4h, List.append_assoc] using HIS6.out, HB6.out⟩⟩
        case measure => simp [intOf]
      · clear hix
        have HIS6 : Hid (IsC wr W1.heap.size W1.heap.size (headB v p r t b n)) := HIS5
        have hlen := preB_len v p r t b n 3 HP.out HR.out
        go_wp2_with fail
        refine (cbytes_calls HIS6.out (by have : preB v p r t b n 3 = headB v p r t b n := rfl; rw [← this]; omega)).mono ?_
        rintro e w6 ⟨x, rfl, hv6, hb6⟩
        have HV6 := Lib.hid hv6
        have HB6 := Lib.hid (HB5.out.trans (Below.mono hb6 HB5.out.size))
        have HSZ := Lib.hid (show w.heap.size ≤ wr.heap.size from Nat.le_trans HB1.out.size HB5.out.size)
        clear hv6 hb6
        go_wp2
        go_ret
        exact ⟨_, rfl, Kd.R_lower HV6.out HSZ.out, HB1.out.trans (Below.mono HB6.out HB1.out.size)⟩
end Go.Proofs.YtefnpecncacepaaDoor.Hand

/- A header's hash: walked. -/
namespace Go.Proofs.YtefnpecncacepaaDoor.Hand
open Go Go.RowKit Go.Proofs.YtefnpecncacepaaDoor.Plain Go.Proofs.YtefnpecncacepaaDoor.PAll Go.Proofs.YtefnpecncacepaaDoorW.PrintWords Go.Proofs.YtefnpecncacepaaDoorW.PrintLast Go.Proofs.YtefnpecncacepaaDoorW.PrintMore
set_option linter.unusedVariables false
set_option linter.unusedSimpArgs false
set_option maxRecDepth 100000
attribute [local go_sem ↓] Go.wp_at_zero Go.wp_at_succ
theorem headB_len (v : Int) (p r : List Int) (t b n : Int) (hp : p.length = 32) (hr : r.length = 32) : (headB v p r t b n).length = 80 := by simp [headB, digs_length, hp, hr]
theorem headB_bytes (v : Int) {p r : List Int} (t b n : Int) (hp : ∀ x ∈ p, 0 ≤ x ∧ x < 256) (hr : ∀ x ∈ r, 0 ≤ x ∧ x < 256) : ∀ x ∈ headB v p r t b n, 0 ≤ x ∧ x < 256 := by
  intro x hx
  simp only [headB, List.mem_append] at hx
  rcases hx with (((h | h | h) | h) | h) | h
  · exact digs_bytes _ _ _ h
  · exact hp x h
  · exact hr x h
  · exact digs_bytes _ _ _ h
  · exact digs_bytes _ _ _ h
  · exact digs_bytes _ _ _ h
theorem hcells_one (v : Int) (p r : List Int) (t b n : Int) : (hcells v p r t b n).toArray.all (·.oneCell') = true := by
  refine all_oneCell_toArray fun x hx => ?_
  simp only [hcells, List.mem_cons, List.mem_append, List.mem_nil_iff, or_false] at hx
  rcases hx with rfl | h | h | rfl | rfl | rfl
  · rfl
  · exact nums_one _ _ x h
  · exact nums_one _ _ x h
  · rfl
  · rfl
  · rfl
set_option maxHeartbeats 4000000 in
theorem hhash_calls (v : Int) (p r : List Int) (t b n : Int) (w : World) (hp : p.length = 32) (hr : r.length = 32) (hv0 : 0 ≤ v) (hv1 : v < 4294967296) (ht0 : 0 ≤ t) (ht1 : t < 4294967296) (hb0 : 0 ≤ b) (hb1 : b < 4294967296) (hn0 : 0 ≤ n) (hn1 : n < 4294967296)
    (bp : ∀ x ∈ p, 0 ≤ x ∧ x < 256) (br : ∀ x ∈ r, 0 ≤ x ∧ x < 256) (hK : KT w) :
    Calls Tryd.prog 7 #[hV v p r t b n] w fun e w' => e = .returned (.agg (nums .u8 (twiceP (headB v p r t b n))).toArray) ∧ Below w.heap.size w w' := by
  have HBC := Lib.hid (fun W => hbytes_calls v p r t b n W hp hr hv0 hv1 ht0 ht1 hb0 hb1 hn0 hn1)
  have hbl := headB_len v p r t b n hp hr
  have hbb := headB_bytes v t b n bp br
  obtain ⟨HB, hHB⟩ : ∃ l, headB v p r t b n = l := ⟨_, rfl⟩
  rw [hHB] at HBC hbl hbb ⊢
  have HLB := Lib.hid (And.intro hbl hbb)
  have HK := Lib.hid hK
  have hz31 := (zero_of_info infoHash).1
  obtain ⟨Z0, hZ0⟩ : ∃ C, (nums .u8 (List.replicate 32 0)).toArray = C := ⟨_, rfl⟩
  rw [hZ0] at hz31
  have HZ0 := Lib.hid hZ0
  have hci : (Tryd.prog.info? 26).map (·.size) = some (hcells v p r t b n).toArray.size := by
    rw [(zero_of_info infoH).2]
    simp [hcells_len v p r t b n hp hr]
  unfold hV at HBC ⊢
  obtain ⟨C, hC⟩ : ∃ C, (hcells v p r t b n).toArray = C := ⟨_, rfl⟩
  rw [hC] at HBC hci ⊢
  have HCI := Lib.hid hci
  have HU26 := Lib.hid Tryd.underlying26
  have HU31 := Lib.hid Tryd.underlying24
  obtain ⟨RA, hRA⟩ : ∃ R, (nums .u8 (twiceP HB)).toArray = R := ⟨_, rfl⟩
  have hsl : (nums .u8 (twiceP HB)).length = 32 := by simp [nums, twiceP, sumP_len]
  have HRS := Lib.hid (show (Tryd.prog.info? 24).map (·.size) = some RA.size ∧ Z0.size = RA.size ∧ RA.all (·.oneCell') = true by
    have h32 : RA.size = 32 := by rw [← hRA]; exact hsl
    refine ⟨by rw [h32]; exact (zero_of_info infoHash).2, by rw [h32, ← HZ0.out]; rfl, by rw [← hRA]; exact all_oneCell_toArray (nums_one _ _)⟩)
  have HRR := Lib.hid hRA
  have HB1 := Lib.hid (below_alloc (below_alloc (Below.refl w.heap.size w) (.cells C 26)) (.cells Z0 24))
  have HC1 := Lib.hid (heap_alloc2_old w (.cells C 26) (.cells Z0 24))
  have HZ1 := Lib.hid (heap_alloc2_new w (.cells C 26) (.cells Z0 24))
  rw [hRA]
  clear hK hp hr hv0 hv1 ht0 ht1 hb0 hb1 hn0 hn1 bp br hHB hbl hbb hC hci hZ0 hsl hRA
  go_enter Tryd.func7, Tryd.ntmps7
  go_wp2_with ((with_reducible show wpList _ _ _ (Oper.mk _ (Op.load _ _) _ _ _ _ :: _) _ _); (go_loud (refine wpList_load_row rfl 26 (.tmp 1) rfl w.heap.size rfl 26 C (0, 0) _ HC1.out HU26.out rfl HCI.out ?_)))
  refine (HBC.out _).mono ?_
  rintro e w1 ⟨x, rfl, hx, hb1⟩
  obtain ⟨A2, c2, hv, hc2, hC2⟩ := Kd.R_reads hx
  have HZ2 := Lib.hid ((hb1.block _ (blk_lt HZ1.out)).trans HZ1.out)
  have HB2 := Lib.hid (HB1.out.trans (Below.mono hb1 HB1.out.size))
  have HB3 := Lib.hid (HB2.out.alloc HB2.out.size (.cells #[.slice A2 80 c2] 28))
  have HZ3 := Lib.hid (blk_alloc HZ2.out (.cells #[.slice A2 80 c2] 28))
  have ht := twice_calls (some ⟨w1.heap.size, 0, none⟩) 1 1 [HB] (w1.alloc (.cells #[.slice A2 80 c2] 28)) rfl (C_one (A := A2) (c := c2) (ys := HB) (by rw [HLB.out.1]; exact heap_alloc_new w1 _) hc2 (Kd.C_below hC2 (below_alloc (Below.refl _ _) _))) (by simpa using HLB.out.2) (by simp [HLB.out.1]) (by decide) (HK.out.below HB3.out (Nat.le_refl _))
  rw [show [HB].flatten = HB by simp, HRR.out] at ht
  have HT := Lib.hid ht
  rw [HLB.out.1] at hv
  subst hv
  clear hx hb1 hc2 hC2 ht
  go_wp2_with fail
  refine HT.out.mono ?_
  rintro e w5 ⟨rfl, hb5⟩
  have HZ5 := Lib.hid ((hb5.block _ (blk_lt HZ3.out)).trans HZ3.out)
  have HB5 := Lib.hid (HB3.out.trans (Below.mono hb5 HB3.out.size))
  clear hb5
  go_wp2_with ((with_reducible show wpList _ _ _ (Oper.mk _ (Op.store _ _ _) _ _ _ _ :: _) _ _); (go_loud (refine wpList_store_row rfl 24 (.tmp 2) (.tmp 6) rfl (w.heap.size + 1) RA rfl rfl 24 Z0 HZ5.out HRS.out.1 HRS.out.2.1 HRS.out.2.2 ?_)))
  exact bodyPost_ret (results_cell_row rfl _ _ (w.heap.size + 1) 24 RA (0, 0) _ rfl (setRow_heap _ _ _ _ _ _ HZ5.out) HU31.out rfl HRS.out.1) rfl ⟨rfl, below_setRow HB5.out (by omega) _⟩
end Go.Proofs.YtefnpecncacepaaDoor.Hand

/- The headers' awake: walked. -/
namespace Go.Proofs.YtefnpecncacepaaDoor.Hand
open Go Go.RowKit Go.Proofs.YtefnpecncacepaaDoor.Plain Go.Proofs.YtefnpecncacepaaDoor.PAll Go.Proofs.YtefnpecncacepaaDoorW.PrintWords Go.Proofs.YtefnpecncacepaaDoorW.PrintLast Go.Proofs.YtefnpecncacepaaDoorW.PrintMore
set_option linter.unusedVariables false
set_option linter.unusedSimpArgs false
set_option maxRecDepth 100000
theorem built_awake : Tryd.prog.built 26 [(4, .int .u32 545259519)] = some (hcells 0 z32 z32 0 545259519 0).toArray := by kernel_rfl
theorem awake_head : rdOf 0 (headB 0 z32 z32 0 545259519 0) 72 = 255 ∧ rdOf 0 (headB 0 z32 z32 0 545259519 0) 74 = 127 ∧ rdOf 0 (headB 0 z32 z32 0 545259519 0) 75 = 32 := by decide
set_option maxHeartbeats 1000000 in
theorem awake7_calls (w : World) : Calls Tryd.prog 9 #[] w fun e w' => e = .returned (.bool true) ∧ Below w.heap.size w w' := by
  have HBC := Lib.hid (hbytes_calls 0 z32 z32 0 545259519 0 w (by decide) (by decide) (by omega) (by omega) (by omega) (by omega) (by omega) (by omega) (by omega) (by omega))
  obtain ⟨k72, k74, k75⟩ := awake_head
  have hbl := headB_len 0 z32 z32 0 545259519 0 (by decide) (by decide)
  have hbu := built_awake
  unfold hV at HBC
  obtain ⟨C, hC⟩ : ∃ C, (hcells 0 z32 z32 0 545259519 0).toArray = C := ⟨_, rfl⟩
  rw [hC] at HBC hbu
  have HBU := Lib.hid hbu
  obtain ⟨HB, hHB⟩ : ∃ l, headB 0 z32 z32 0 545259519 0 = l := ⟨_, rfl⟩
  rw [hHB] at HBC hbl k72 k74 k75
  have HK := Lib.hid (And.intro hbl (And.intro k72 (And.intro k74 k75)))
  clear hC hHB hbl k72 k74 k75 hbu
  go_enter Tryd.func9, Tryd.ntmps9
  go_wp2_with ((with_reducible show wpList _ _ _ (Oper.mk _ (Op.build _ _) _ _ _ _ :: _) _ _); (go_loud (refine wpl_build rfl 26 _ rfl #[(4, .int .u32 545259519)] (by simp [Act.eval]) C HBU.out ?_)))
  refine HBC.out.mono ?_
  rintro e w1 ⟨x, rfl, hR, hb1⟩
  obtain ⟨g, cap, hv, hgb, hgl, -⟩ := Kd.R_form hR (by rw [HK.out.1]; decide)
  rw [HK.out.1] at hv
  subst hv
  have c72 := (Kd.R_celln (0 : Int) hR 72 (by omega) (by omega)).1
  have c74 := (Kd.R_celln (0 : Int) hR 74 (by omega) (by omega)).1
  have c75 := (Kd.R_celln (0 : Int) hR 75 (by omega) (by omega)).1
  rw [HK.out.2.1] at c72
  rw [HK.out.2.2.1] at c74
  rw [HK.out.2.2.2] at c75
  replace c72 : w1.cell? ⟨g, 72, none⟩ = some (.int .u8 255) := c72
  replace c74 : w1.cell? ⟨g, 74, none⟩ = some (.int .u8 127) := c74
  replace c75 : w1.cell? ⟨g, 75, none⟩ = some (.int .u8 32) := c75
  have HB1 := Lib.hid hb1
  clear hR hb1 hgb hgl
  go_wp2_with fail
  go_ret
  exact ⟨rfl, HB1.out⟩
end Go.Proofs.YtefnpecncacepaaDoor.Hand

/- The law HeaderApart: its walk. -/
namespace Go.Proofs.YtefnpecncacepaaDoor.Hand
open Go Go.RowKit Go.Proofs.YtefnpecncacepaaDoor.Plain Go.Proofs.YtefnpecncacepaaDoor.PAll Go.Proofs.YtefnpecncacepaaDoorW.PrintWords Go.Proofs.YtefnpecncacepaaDoorW.PrintLast Go.Proofs.YtefnpecncacepaaDoorW.PrintMore
set_option linter.unusedVariables false
set_option linter.unusedSimpArgs false
set_option maxRecDepth 100000
attribute [local go_sem ↓] Go.wp_at_zero Go.wp_at_succ
theorem part_hash (v : Int) (p r : List Int) (t b n : Int) (hp : p.length = 32) (hr : r.length = 32) (w : World) :
    (part 24 (hcells v p r t b n).toArray 1).run Tryd.prog w = .ok (.agg (nums .u8 p).toArray) w ∧ (part 24 (hcells v p r t b n).toArray 33).run Tryd.prog w = .ok (.agg (nums .u8 r).toArray) w := by
  obtain ⟨x0, x1, x2, x3, x4, x5, x6, x7, x8, x9, x10, x11, x12, x13, x14, x15, x16, x17, x18, x19, x20, x21, x22, x23, x24, x25, x26, x27, x28, x29, x30, x31, rfl⟩ := list32 p hp
  obtain ⟨y0, y1, y2, y3, y4, y5, y6, y7, y8, y9, y10, y11, y12, y13, y14, y15, y16, y17, y18, y19, y20, y21, y22, y23, y24, y25, y26, y27, y28, y29, y30, y31, rfl⟩ := list32 r hr
  exact ⟨by kernel_rfl, by kernel_rfl⟩
theorem part_u32 (C : Array Value) (o : Nat) (x : Int) (h : C[o]? = some (.int .u32 x)) (w : World) : (part 22 C o).run Tryd.prog w = .ok (.int .u32 x) w := by
  simp [part, isAgg, run_underlying Tryd.underlying22, h]
theorem heads_eq (v : Int) (p r : List Int) (t b n v' : Int) (p' r' : List Int) (t' b' n' : Int) (hp : p.length = 32) (hr : r.length = 32) (hp' : p'.length = 32) (hr' : r'.length = 32) (w : World) :
    (Op.equalIn 10000 26 (.agg (hcells v p r t b n).toArray) (.agg (hcells v' p' r' t' b' n').toArray)).run Tryd.prog w = .ok (v == v' && (p == p' && (r == r' && (t == t' && (b == b' && n == n'))))) w := by
  obtain ⟨a1, a2⟩ := part_hash v p r t b n hp hr w
  obtain ⟨b1, b2⟩ := part_hash v' p' r' t' b' n' hp' hr' w
  obtain ⟨a3, a4, a5⟩ := hcells_at v p r t b n hp hr
  obtain ⟨b3, b4, b5⟩ := hcells_at v' p' r' t' b' n' hp' hr'
  have eqi : ∀ x y : Int, (Op.equalIn 9999 22 (.int .u32 x) (.int .u32 y)).run Tryd.prog w = .ok (x == y) w := fun x y => run_equalIn_int w 9998 22 .u32 .u32 x y Tryd.underlying22
  have eqh : ∀ x y : List Int, x.length = 32 → y.length = 32 → (Op.equalIn 9999 24 (.agg (nums .u8 x).toArray) (.agg (nums .u8 y).toArray)).run Tryd.prog w = .ok (x == y) w := fun x y hx hy => run_equalIn_nums (P := Tryd.prog) w 9997 24 5 32 .u8 Tryd.underlying24 Tryd.underlying5 (fun w => by rfl) x y hx hy
  refine eqA_of (d := 9999) Tryd.underlying26 (by kernel_rfl) ?_
  refine eqf_cons rfl (part_u32 _ _ _ rfl w) (part_u32 _ _ _ rfl w) (eqi v v') ?_
  refine eqf_cons rfl a1 b1 (eqh p p' hp hp') ?_
  refine eqf_cons rfl a2 b2 (eqh r r' hr hr') ?_
  refine eqf_cons rfl (part_u32 _ _ _ a3 w) (part_u32 _ _ _ b3 w) (eqi t t') ?_
  refine eqf_cons rfl (part_u32 _ _ _ a4 w) (part_u32 _ _ _ b4 w) (eqi b b') ?_
  exact eqf_last rfl (part_u32 _ _ _ a5 w) (part_u32 _ _ _ b5 w) (eqi n n')
theorem digs4_inj {x y : Int} (hx : 0 ≤ x ∧ x < 4294967296) (hy : 0 ≤ y ∧ y < 4294967296) (h : digs 4 x.toNat = digs 4 y.toNat) : x = y := by
  have h1 := congrArg val h
  rw [val_digs, val_digs] at h1
  have h2 : x.toNat % 256 ^ 4 = y.toNat % 256 ^ 4 := by exact_mod_cast h1
  have e : (256 : Nat) ^ 4 = 4294967296 := by decide
  rw [e] at h2
  omega
/-- A header's values. -/
def HWf (v : Int) (p r : List Int) (t b n : Int) : Prop := p.length = 32 ∧ r.length = 32 ∧ (0 ≤ v ∧ v < 4294967296) ∧ (0 ≤ t ∧ t < 4294967296) ∧ (0 ≤ b ∧ b < 4294967296) ∧ (0 ≤ n ∧ n < 4294967296) ∧ (∀ x ∈ p, 0 ≤ x ∧ x < 256) ∧ (∀ x ∈ r, 0 ≤ x ∧ x < 256)
theorem headB_inj {v : Int} {p r : List Int} {t b n v' : Int} {p' r' : List Int} {t' b' n' : Int} (h1 : HWf v p r t b n) (h2 : HWf v' p' r' t' b' n') (h : headB v p r t b n = headB v' p' r' t' b' n') : v = v' ∧ p = p' ∧ r = r' ∧ t = t' ∧ b = b' ∧ n = n' := by
  obtain ⟨hp, hr, hv, ht, hb, hn, _, _⟩ := h1
  obtain ⟨hp', hr', hv', ht', hb', hn', _, _⟩ := h2
  unfold headB at h
  obtain ⟨h, e1⟩ := List.append_inj' h (by simp [digs_length])
  obtain ⟨h, e2⟩ := List.append_inj' h (by simp [digs_length])
  obtain ⟨h, e3⟩ := List.append_inj' h (by simp [digs_length])
  obtain ⟨e4, h⟩ := List.append_inj h (by simp [digs_length])
  obtain ⟨e5, e6⟩ := List.append_inj h (by rw [hp, hp'])
  exact ⟨digs4_inj hv hv' e4, e5, e6, digs4_inj ht ht' e3, digs4_inj hb hb' e2, digs4_inj hn hn' e1⟩
theorem strh_inj {a b : List Int} (ha : ∀ x ∈ a, 0 ≤ x ∧ x < 256) (hb : ∀ x ∈ b, 0 ≤ x ∧ x < 256) (h : strOfNums a = strOfNums b) : a = b := by
  rw [← bytesOf_str ha, ← bytesOf_str hb, h]
theorem tolisth_inj {a b : ByteArray} (h : a.toList = b.toList) : a = b := by
  apply ByteArray.ext
  apply Array.toList_inj.1
  rw [← Lib.toList_data, ← Lib.toList_data, h]
/-- A header's bytes, turned into a string behind the call. -/
theorem hbytes_str {v : Int} {p r : List Int} {t b n : Int} (h : HWf v p r t b n) {T : ByteArray} (hT : strOfNums (headB v p r t b n) = T) (C : Array Value) (hC : (hcells v p r t b n).toArray = C) (W : World) :
    Calls Tryd.prog 8 #[.agg C] W fun e w' => ∃ x, e = .returned x ∧ Below W.heap.size W w' ∧ ∀ u : World, Below w'.heap.size w' u → (convert 28 9 x).run Tryd.prog u = .ok (.string T) u := by
  obtain ⟨hp, hr, hv, ht, hb, hn, _, _⟩ := h
  subst hC
  refine (hbytes_calls v p r t b n W hp hr hv.1 hv.2 ht.1 ht.2 hb.1 hb.2 hn.1 hn.2).mono ?_
  rintro e w' ⟨x, rfl, hR, hbl⟩
  obtain ⟨A, c, rfl, hc, hCC⟩ := Kd.R_reads hR
  exact ⟨_, rfl, hbl, fun u hu => by
    rw [← hT]
    exact Kd.C_string (P := Tryd.prog) Tryd.underlying28 Tryd.underlying5 Tryd.underlying9 (Kd.C_below hCC hu)⟩
attribute [-go_sem] loadVar
theorem eq32h (S : List Int) (hS : S.length = 32) (w : World) : (Op.equalIn 10000 24 (.agg (nums .u8 S).toArray) (.agg (nums .u8 S).toArray)).run Tryd.prog w = .ok true w := by
  have h := run_equalIn_nums (P := Tryd.prog) w 9998 24 5 32 .u8 Tryd.underlying24 Tryd.underlying5 (fun w => by rfl) S S hS hS
  rwa [beq_self_eq_true] at h
end Go.Proofs.YtefnpecncacepaaDoor.Hand

/- A header as a parameter. -/
namespace Go.Proofs.YtefnpecncacepaaDoor.Hand
open Go Go.RowKit Go.Proofs.YtefnpecncacepaaDoor.Plain Go.Proofs.YtefnpecncacepaaDoor.PAll Go.Proofs.YtefnpecncacepaaDoorW.PrintWords Go.Proofs.YtefnpecncacepaaDoorW.PrintLast Go.Proofs.YtefnpecncacepaaDoorW.PrintMore
set_option linter.unusedVariables false
theorem arr_cells {w : World} {n : Nat} {k : IntKind} {hs : 0 < (Kd.int k).sz} {x : List Int} {cs : List Value} (h : (Kd.arr n (Kd.int k) hs).K w x cs) : x.length = n ∧ cs = nums k x := by
  obtain ⟨h1, h2, h3⟩ := h
  have hl : cs.length = x.length := by
    rw [h2]
    show x.length * 1 = _
    omega
  refine ⟨h1, List.ext_getElem (by simp [nums, hl]) fun i hi hi2 => ?_⟩
  have hx : i < x.length := by omega
  have h4 : (cs.drop (i * 1)).take 1 = [Value.int k x[i]] := h3 i x[i] (List.getElem?_eq_getElem hx)
  have h5 : ((cs.drop (i * 1)).take 1)[0]? = some (Value.int k x[i]) := by rw [h4]; rfl
  rw [List.getElem?_take_of_lt (by decide), List.getElem?_drop, Nat.mul_one, Nat.add_zero, List.getElem?_eq_getElem hi] at h5
  simp only [nums, List.getElem_map]
  exact Option.some.inj h5
/-- What an opened header says. -/
theorem head_open {w : World} {hs : 0 < (Kd.int .u8).sz} {x : Int × List Int × List Int × Int × Int × Int} {cs : Array Value}
    (K : (Kd.pair (Kd.int .u32) (Kd.pair (Kd.arr 32 (Kd.int .u8) hs) (Kd.pair (Kd.arr 32 (Kd.int .u8) hs) (Kd.pair (Kd.int .u32) (Kd.pair (Kd.int .u32) (Kd.int .u32)))))).K w x cs.toList)
    (h0 : (Lit.int .u32 x.1).wf = true) (h1 : ∀ y ∈ x.2.1, (Lit.int .u8 y).wf = true) (h2 : ∀ y ∈ x.2.2.1, (Lit.int .u8 y).wf = true) (h3 : (Lit.int .u32 x.2.2.2.1).wf = true) (h4 : (Lit.int .u32 x.2.2.2.2.1).wf = true) (h5 : (Lit.int .u32 x.2.2.2.2.2).wf = true) :
    ∃ v p r t b n, (Value.agg cs) = hV v p r t b n ∧ HWf v p r t b n := by
  obtain ⟨v, p, r, t, b, n⟩ := x
  obtain ⟨c0, c1, e0, k0, d1, d2, e1, k1, d3, d4, e2, k2, d5, d6, e3, k3, d7, d8, e4, k4, k5⟩ := K
  obtain ⟨lp, rfl⟩ := arr_cells k1
  obtain ⟨lr, rfl⟩ := arr_cells k2
  obtain rfl : c0 = [.int .u32 v] := k0
  obtain rfl : d5 = [.int .u32 t] := k3
  obtain rfl : d7 = [.int .u32 b] := k4
  obtain rfl : d8 = [.int .u32 n] := k5
  subst e4 e3 e2 e1
  have a0 := bounds_u32 h0
  have a3 := bounds_u32 h3
  have a4 := bounds_u32 h4
  have a5 := bounds_u32 h5
  refine ⟨v, p, r, t, b, n, ?_, lp, lr, by simp at a0; omega, by simp at a3; omega, by simp at a4; omega, by simp at a5; omega, wf_u8s h1, wf_u8s h2⟩
  unfold hV
  congr 1
  apply Array.toList_inj.1
  rw [e0]
  rfl
end Go.Proofs.YtefnpecncacepaaDoor.Hand

/- A header comes back from its bytes: the plain law. -/
namespace Go.Proofs.YtefnpecncacepaaDoor.Hand
open Go Go.RowKit Go.Proofs.YtefnpecncacepaaDoor.Plain Go.Proofs.YtefnpecncacepaaDoor.PAll Go.Proofs.YtefnpecncacepaaDoorW.PrintWords Go.Proofs.YtefnpecncacepaaDoorW.PrintLast Go.Proofs.YtefnpecncacepaaDoorW.PrintMore
set_option linter.unusedVariables false
theorem takeR_at {bs pre x post : List Int} {p k : Nat} (hb : bs = pre ++ (x ++ post)) (hp : pre.length = p) (hx : x.length = k) : takeR bs p 0 (k : Int) = (x, p + k, 0) := by
  subst hb hp hx
  unfold takeR
  rw [if_neg (by simp), if_neg (by simp only [List.length_append]; omega)]
  simp
theorem head_back {v : Int} {p r : List Int} {t b n : Int} (h : HWf v p r t b n) :
    headE (headB v p r t b n) = 0 ∧ (h1R (headB v p r t b n)).1 % 4294967296 = v ∧ (h2R (headB v p r t b n)).1 = p ∧ (h3R (headB v p r t b n)).1 = r ∧ (h4R (headB v p r t b n)).1 % 4294967296 = t ∧ (h5R (headB v p r t b n)).1 % 4294967296 = b ∧ (h6R (headB v p r t b n)).1 % 4294967296 = n := by
  have hlen := headB_len v p r t b n h.1 h.2.1
  obtain ⟨hp, hr, hv, ht, hb, hn, _, _⟩ := h
  have hd : ∀ x : Int, 0 ≤ x ∧ x < 4294967296 → val (digs 4 x.toNat) % 4294967296 = x := fun x hx => by
    rw [val_digs]
    have e : (256 : Nat) ^ 4 = 4294967296 := by decide
    rw [e]
    omega
  obtain ⟨bs, hbs⟩ : ∃ l, headB v p r t b n = l := ⟨_, rfl⟩
  have e0 : bs = [] ++ (digs 4 v.toNat ++ (p ++ r ++ digs 4 t.toNat ++ digs 4 b.toNat ++ digs 4 n.toNat)) := by rw [← hbs]; simp [headB]
  have e1 : bs = digs 4 v.toNat ++ (p ++ (r ++ digs 4 t.toNat ++ digs 4 b.toNat ++ digs 4 n.toNat)) := by rw [← hbs]; simp [headB]
  have e2 : bs = (digs 4 v.toNat ++ p) ++ (r ++ (digs 4 t.toNat ++ digs 4 b.toNat ++ digs 4 n.toNat)) := by rw [← hbs]; simp [headB]
  have e3 : bs = (digs 4 v.toNat ++ p ++ r) ++ (digs 4 t.toNat ++ (digs 4 b.toNat ++ digs 4 n.toNat)) := by rw [← hbs]; simp [headB]
  have e4 : bs = (digs 4 v.toNat ++ p ++ r ++ digs 4 t.toNat) ++ (digs 4 b.toNat ++ digs 4 n.toNat) := by rw [← hbs]; simp [headB]
  have e5 : bs = (digs 4 v.toNat ++ p ++ r ++ digs 4 t.toNat ++ digs 4 b.toNat) ++ (digs 4 n.toNat ++ []) := by rw [← hbs]; simp [headB]
  rw [hbs] at hlen ⊢
  have k1 := takeR_at (p := 0) (k := 4) e0 rfl (digs_length 4 _)
  have k2 := takeR_at (p := 4) (k := 32) e1 (digs_length 4 _) hp
  have k3 := takeR_at (p := 36) (k := 32) e2 (by rw [List.length_append, digs_length, hp]) hr
  have k4 := takeR_at (p := 68) (k := 4) e3 (by simp only [List.length_append, digs_length, hp, hr]) (digs_length 4 _)
  have k5 := takeR_at (p := 72) (k := 4) e4 (by simp only [List.length_append, digs_length, hp, hr]) (digs_length 4 _)
  have k6 := takeR_at (p := 76) (k := 4) e5 (by simp only [List.length_append, digs_length, hp, hr]) (digs_length 4 _)
  have r1 : h1R bs = (val (digs 4 v.toNat), 4, 0) := by
    unfold h1R numR
    rw [wid4h, k1]
  have r2 : h2R bs = (p, 36, 0) := by
    unfold h2R hashR
    rw [r1]
    simp only
    rw [show (32 : Int) = ((32 : Nat) : Int) from rfl, k2]
    simp only
    rw [if_pos hp]
  have r3 : h3R bs = (r, 68, 0) := by
    unfold h3R hashR
    rw [r2]
    simp only
    rw [show (32 : Int) = ((32 : Nat) : Int) from rfl, k3]
    simp only
    rw [if_pos hr]
  have r4 : h4R bs = (val (digs 4 t.toNat), 72, 0) := by
    unfold h4R numR
    rw [r3, wid4h]
    simp only
    rw [k4]
  have r5 : h5R bs = (val (digs 4 b.toNat), 76, 0) := by
    unfold h5R numR
    rw [r4, wid4h]
    simp only
    rw [k5]
  have r6 : h6R bs = (val (digs 4 n.toNat), 80, 0) := by
    unfold h6R numR
    rw [r5, wid4h]
    simp only
    rw [k6]
  refine ⟨?_, by rw [r1]; exact hd v hv, by rw [r2], by rw [r3], by rw [r4]; exact hd t ht, by rw [r5]; exact hd b hb, by rw [r6]; exact hd n hn⟩
  unfold headE endR
  rw [r6]
  simp [hlen]
end Go.Proofs.YtefnpecncacepaaDoor.Hand

/- The document's example: the answer is true. -/
namespace Go.Proofs.YtefnpecncacepaaDoor.Hand
open Go Go.RowKit Go.Proofs.YtefnpecncacepaaDoor.Plain Go.Proofs.YtefnpecncacepaaDoor.PAll Go.Proofs.YtefnpecncacepaaDoorW.PrintWords Go.Proofs.YtefnpecncacepaaDoorW.PrintLast Go.Proofs.YtefnpecncacepaaDoorW.PrintMore
set_option linter.unusedVariables false
set_option linter.unusedSimpArgs false
set_option maxRecDepth 100000
theorem abc_sum : rd (sumP [97, 98, 99]) 0 = 186 ∧ rd (sumP [97, 98, 99]) 1 = 120 ∧ rd (sumP [97, 98, 99]) 30 = 21 ∧ rd (sumP [97, 98, 99]) 31 = 173 := by decide +kernel
theorem blk_lt' {w : World} {b : Nat} {o : Obj} (h : w.heap[b]? = some o) : b < w.heap.size := (Array.getElem?_eq_some_iff.1 h).1
theorem blk_alloc' {w : World} {b : Nat} {o : Obj} (h : w.heap[b]? = some o) (o' : Obj) : (w.alloc o').heap[b]? = some o := by
  rw [(below_alloc (Below.refl w.heap.size w) o').block b (blk_lt' h)]
  exact h
theorem rd_cell {S : List Int} {j : Nat} (h : j < S.length) : (nums .u8 S).toArray[j]? = some (.int .u8 (rd S (j : Int))) := by
  simp [nums, rd, h]
end Go.Proofs.YtefnpecncacepaaDoor.Hand

/- The document's sum: walked. -/
namespace Go.Proofs.YtefnpecncacepaaDoor.Hand
open Go Go.RowKit Go.Proofs.YtefnpecncacepaaDoor.Plain Go.Proofs.YtefnpecncacepaaDoor.PAll Go.Proofs.YtefnpecncacepaaDoorW.PrintWords Go.Proofs.YtefnpecncacepaaDoorW.PrintLast Go.Proofs.YtefnpecncacepaaDoorW.PrintMore
set_option linter.unusedVariables false
set_option linter.unusedSimpArgs false
set_option maxRecDepth 100000
def preP (bs : List Int) (m : Nat) : List Int := bs ++ (128 :: List.replicate m 0)
theorem preP_len (bs : List Int) (m : Nat) : (preP bs m).length = bs.length + 1 + m := by
  simp [preP]
  omega
theorem preP_step (bs : List Int) (m : Nat) : preP bs (m + 1) = preP bs m ++ [0] := by
  simp [preP, List.replicate_succ']
theorem preP_pad (bs : List Int) : preP bs (padZ bs.length) ++ great 8 (8 * bs.length) = padB bs := rfl
theorem great_take (N k : Nat) (hk : k < 8) : (great 8 N).take (k + 1) = (great 8 N).take k ++ [((N / 256 ^ (7 - k) % 256 : Nat) : Int)] := by
  have h : great 8 N = [((N / 256 ^ 7 % 256 : Nat) : Int), ((N / 256 ^ 6 % 256 : Nat) : Int), ((N / 256 ^ 5 % 256 : Nat) : Int), ((N / 256 ^ 4 % 256 : Nat) : Int), ((N / 256 ^ 3 % 256 : Nat) : Int), ((N / 256 ^ 2 % 256 : Nat) : Int), ((N / 256 ^ 1 % 256 : Nat) : Int), ((N / 256 ^ 0 % 256 : Nat) : Int)] := by
    simp [great, digs, Nat.div_div_eq_div_mul]
  rw [h]
  match k, hk with
  | 0, _ => rfl
  | 1, _ => rfl
  | 2, _ => rfl
  | 3, _ => rfl
  | 4, _ => rfl
  | 5, _ => rfl
  | 6, _ => rfl
  | 7, _ => rfl
theorem great4 {x : Int} (h : Wd x) : great 4 x.toNat = [x / 16777216, x / 65536 % 256, x / 256 % 256, x % 256] := by
  obtain ⟨n, rfl⟩ := Int.eq_ofNat_of_zero_le h.1
  have h1 : (n : Int) < 4294967296 := h.2
  simp [great, digs, Nat.div_div_eq_div_mul]
  omega
theorem out_set (s : St) (n : Nat) (hn : n < 8) (a b c d : Int) (h : great 4 (s.at8 n).toNat = [a, b, c, d]) : ((((nums .u8 (outRow s n)).toArray.setIfInBounds (4 * n) (.int .u8 a)).setIfInBounds (4 * n + 1) (.int .u8 b)).setIfInBounds (4 * n + 2) (.int .u8 c)).setIfInBounds (4 * n + 3) (.int .u8 d) = (nums .u8 (outRow s (n + 1))).toArray := by
  have h1 : (nums .u8 (greats s n)).length = 4 * n := by simp [nums, greats_len]
  have h2 : nums .u8 (outRow s n) = nums .u8 (greats s n) ++ (.int .u8 0 :: .int .u8 0 :: .int .u8 0 :: .int .u8 0 :: List.replicate (28 - 4 * n) (.int .u8 0)) := by
    unfold outRow
    rw [show 32 - 4 * n = (28 - 4 * n) + 1 + 1 + 1 + 1 by omega]
    simp [nums, List.replicate_succ]
  have h3 : nums .u8 (outRow s (n + 1)) = nums .u8 (greats s n) ++ (.int .u8 a :: .int .u8 b :: .int .u8 c :: .int .u8 d :: List.replicate (28 - 4 * n) (.int .u8 0)) := by
    have hg : greats s (n + 1) = greats s n ++ great 4 (s.at8 n).toNat := rfl
    unfold outRow
    rw [hg, h, show 32 - 4 * (n + 1) = 28 - 4 * n by omega]
    simp [nums]
  rw [h2, h3]
  simp only [List.setIfInBounds_toArray]
  rw [List.set_append_right _ _ (by omega), h1, Nat.sub_self, List.set_append_right _ _ (by omega), h1, show 4 * n + 1 - 4 * n = 1 by omega, List.set_append_right _ _ (by omega), h1, show 4 * n + 2 - 4 * n = 2 by omega, List.set_append_right _ _ (by omega), h1, show 4 * n + 3 - 4 * n = 3 by omega]
  rfl
theorem up8 {w : World} {g : Nat} {t : TypeId} {s : St} {a b c d e f i j : Int} (h0 : w.heap[g]? = some (.cells (s8 s) t (0, 0))) :
    ((((((((w.setCell ⟨g, 0, none⟩ (.int .u32 a)).setCell ⟨g, 1, none⟩ (.int .u32 b)).setCell ⟨g, 2, none⟩ (.int .u32 c)).setCell ⟨g, 3, none⟩ (.int .u32 d)).setCell ⟨g, 4, none⟩ (.int .u32 e)).setCell ⟨g, 5, none⟩ (.int .u32 f)).setCell ⟨g, 6, none⟩ (.int .u32 i)).setCell ⟨g, 7, none⟩ (.int .u32 j)).heap[g]? = some (.cells (s8 ⟨a, b, c, d, e, f, i, j⟩) t (0, 0)) := by
  have h1 := blk_set h0 0 (.int .u32 a)
  have h2 := blk_set h1 1 (.int .u32 b)
  have h3 := blk_set h2 2 (.int .u32 c)
  have h4 := blk_set h3 3 (.int .u32 d)
  have h5 := blk_set h4 4 (.int .u32 e)
  have h6 := blk_set h5 5 (.int .u32 f)
  have h7 := blk_set h6 6 (.int .u32 i)
  have h8 := blk_set h7 7 (.int .u32 j)
  refine h8.trans ?_
  simp only [s8, List.setIfInBounds_toArray, List.set_cons_zero, List.set_cons_succ]
theorem upfar8 {w : World} {g k : Nat} {a b c d e f i j : Int} (h : k ≠ g) : ((((((((w.setCell ⟨g, 0, none⟩ (.int .u32 a)).setCell ⟨g, 1, none⟩ (.int .u32 b)).setCell ⟨g, 2, none⟩ (.int .u32 c)).setCell ⟨g, 3, none⟩ (.int .u32 d)).setCell ⟨g, 4, none⟩ (.int .u32 e)).setCell ⟨g, 5, none⟩ (.int .u32 f)).setCell ⟨g, 6, none⟩ (.int .u32 i)).setCell ⟨g, 7, none⟩ (.int .u32 j)).heap[k]? = w.heap[k]? := ((Below.heap_setCell _ ⟨g, 7, none⟩ _ k h).trans ((Below.heap_setCell _ ⟨g, 6, none⟩ _ k h).trans ((Below.heap_setCell _ ⟨g, 5, none⟩ _ k h).trans ((Below.heap_setCell _ ⟨g, 4, none⟩ _ k h).trans ((Below.heap_setCell _ ⟨g, 3, none⟩ _ k h).trans ((Below.heap_setCell _ ⟨g, 2, none⟩ _ k h).trans ((Below.heap_setCell _ ⟨g, 1, none⟩ _ k h).trans (Below.heap_setCell _ ⟨g, 0, none⟩ _ k h))))))))
theorem upbelow8 {w w0 : World} {g B : Nat} {a b c d e f i j : Int} (hb : Below B w0 w) (h : B ≤ g) : Below B w0 ((((((((w.setCell ⟨g, 0, none⟩ (.int .u32 a)).setCell ⟨g, 1, none⟩ (.int .u32 b)).setCell ⟨g, 2, none⟩ (.int .u32 c)).setCell ⟨g, 3, none⟩ (.int .u32 d)).setCell ⟨g, 4, none⟩ (.int .u32 e)).setCell ⟨g, 5, none⟩ (.int .u32 f)).setCell ⟨g, 6, none⟩ (.int .u32 i)).setCell ⟨g, 7, none⟩ (.int .u32 j)) := (Below.setCell (Below.setCell (Below.setCell (Below.setCell (Below.setCell (Below.setCell (Below.setCell (Below.setCell hb (p := ⟨g, 0, none⟩) h _) (p := ⟨g, 1, none⟩) h _) (p := ⟨g, 2, none⟩) h _) (p := ⟨g, 3, none⟩) h _) (p := ⟨g, 4, none⟩) h _) (p := ⟨g, 5, none⟩) h _) (p := ⟨g, 6, none⟩) h _) (p := ⟨g, 7, none⟩) h _)
theorem slice_first (W : World) (A : Option Addr) (m c : Nat) (hc : 64 ≤ c) : (Instr.sliceAt 28 (.slice A m c) none (some (.int .i64 64)) none).run Tryd.prog W = .ok (.slice A 64 c) W := by
  have hu : Tryd.prog.underlying 28 = some (.slice (Tryd.prog.elem 28)) := by kernel_rfl
  rw [run_sliceAt_slice W 28 _ _ _ _ hu, run_slice_h W 28 A m c hu .i64 64 (by omega) (by omega)]
  have z : (sizeOf (Tryd.prog.elem 28)).run Tryd.prog W = .ok 1 W := by rfl
  rw [z]
  have hA : A.map (fun x => x.add 0) = A := by cases A <;> simp [Addr.add]
  simp [sliced, Result.andThen, hA]
theorem info32b : (Tryd.prog.info? 23).map (fun i => (i.zero, i.size)) = some (some (.agg (nums .u8 (List.replicate 32 0)).toArray), 32) := by kernel_rfl
set_option maxHeartbeats 1000000 in
set_option maxRecDepth 100000 in
theorem rfirst_calls (w : World) :
    Calls Tryd.prog 55 #[] w fun e w' => e = .returned (.agg (s8 F0)) ∧ Below w.heap.size w w' := by
  have hz := (zero_of_info info8).1
  obtain ⟨Z, hZ⟩ : ∃ Z, s8 ⟨0, 0, 0, 0, 0, 0, 0, 0⟩ = Z := ⟨_, rfl⟩
  rw [hZ] at hz
  obtain ⟨V, hV⟩ : ∃ V, s8 F0 = V := ⟨_, rfl⟩
  have HB := Lib.hid (s8_build 1779033703 3144134277 1013904242 2773480762 1359893119 2600822924 528734635 1541459225)
  have hV2 : s8 ⟨1779033703, 3144134277, 1013904242, 2773480762, 1359893119, 2600822924, 528734635, 1541459225⟩ = V := hV
  rw [hV2] at HB
  rw [hV]
  have HS := Lib.hid (show (Tryd.prog.info? 95).map (·.size) = some V.size ∧ Z.size = V.size ∧ V.all (·.oneCell') = true by
    rw [← hV, ← hZ]
    exact ⟨s8_size _, rfl, s8_one _⟩)
  clear hZ hV hV2
  go_enter Tryd.func55, Tryd.ntmps55
  go_wp2_with (first | ((with_reducible show wpList _ _ _ (Oper.mk _ (Op.build _ _) _ _ _ _ :: _) _ _); (go_loud (refine wpl_build rfl 95 _ rfl #[(0, .int .u32 1779033703), (1, .int .u32 3144134277), (2, .int .u32 1013904242), (3, .int .u32 2773480762), (4, .int .u32 1359893119), (5, .int .u32 2600822924), (6, .int .u32 528734635), (7, .int .u32 1541459225)] (by simp [Act.eval]) V HB.out ?_))) | ((with_reducible show wpList _ _ _ (Oper.mk _ (Op.store _ _ _) _ _ _ _ :: _) _ _); (go_loud (refine wpl_store_new rfl 95 (.tmp 0) (.tmp 1) rfl Z V rfl rfl HS.out.1 HS.out.2.1 HS.out.2.2 ?_))))
  exact bodyPost_ret (results_cell_row rfl _ _ w.heap.size 95 V (0, 0) _ rfl (heap_alloc_new w _) Tryd.underlying95 rfl HS.out.1) rfl ⟨rfl, below_alloc (Below.refl _ _) _⟩
end Go.Proofs.YtefnpecncacepaaDoor.Hand

/- The document's sum: the function itself. -/
namespace Go.Proofs.YtefnpecncacepaaDoor.Hand
open Go Go.RowKit Go.Proofs.YtefnpecncacepaaDoor.Plain Go.Proofs.YtefnpecncacepaaDoor.PAll Go.Proofs.YtefnpecncacepaaDoorW.PrintWords Go.Proofs.YtefnpecncacepaaDoorW.PrintLast Go.Proofs.YtefnpecncacepaaDoorW.PrintMore
set_option linter.unusedVariables false
set_option linter.unusedSimpArgs false
set_option maxRecDepth 100000
attribute [local go_sem ↓] Go.wp_at_zero Go.wp_at_succ
set_option maxHeartbeats 2000000 in
set_option maxRecDepth 100000 in
theorem rsum_calls (bs : List Int) (w : World) (hl : bs.length ≤ 800000) (hb : ∀ x ∈ bs, 0 ≤ x ∧ x < 256) :
    Calls Tryd.prog 43 #[.string (strOfNums bs)] w fun e w' => e = .returned (.agg (nums .u8 (sumP bs)).toArray) ∧ Below w.heap.size w w' := by
  have hz30 := (zero_of_info info32b).1
  obtain ⟨Z0, hZ0⟩ : ∃ C, (nums .u8 (List.replicate 32 0)).toArray = C := ⟨_, rfl⟩
  rw [hZ0] at hz30
  have HZ0 := Lib.hid hZ0
  have HBY := Lib.hid hb
  have HOB := Lib.hid (fun W => ownB_of_bytes W hb (by omega))
  have kb := fun W => print_bytes (P := Tryd.prog) 9 28 5 Tryd.underlying9 Tryd.underlying28 Tryd.underlying5 (strOfNums bs) W
  have hS := strOfNums_size bs
  obtain ⟨S, hSS⟩ : ∃ S, strOfNums bs = S := ⟨_, rfl⟩
  rw [hSS] at hS kb HOB ⊢
  obtain ⟨nb, hnb⟩ : ∃ n, bs.length = n := ⟨_, rfl⟩
  rw [hnb] at hS hl
  have HNB := Lib.hid hnb
  have HL := Lib.hid hl
  have HSZ := Lib.hid hS
  obtain ⟨pz, hpz⟩ : ∃ z, padZ nb = z := ⟨_, rfl⟩
  have hp1 : pz < 64 ∧ (nb + 1 + pz) % 64 = 56 ∧ ∀ m, m < pz → (nb + 1 + m) % 64 ≠ 56 := by
    unfold padZ at hpz
    refine ⟨by omega, by omega, fun m hm => by omega⟩
  have HPZ := Lib.hid (And.intro hpz hp1)
  have HW1 := Lib.hid (show w.heap.size + 1 = (w.alloc (.cells Z0 23)).heap.size by rw [World.size_alloc])
  have HB1 := Lib.hid (below_alloc (Below.refl w.heap.size w) (.cells Z0 23))
  have H1 := Lib.hid (heap_alloc_new w (.cells Z0 23))
  have hob := HOB.out (w.alloc (.cells Z0 23))
  have hbw := bytesW_below (w.alloc (.cells Z0 23)) S
  have hbz := hbw.size
  rw [World.size_alloc] at hob hbw hbz
  have HPU := Lib.hid (And.intro hob (And.intro hbw hbz))
  have HL9 := Lib.hid (show bs.length ≤ 900000 by omega)
  clear hZ0 hb hSS hS hnb hl hpz hp1 hob hbw hbz
  go_enter Tryd.func43, Tryd.ntmps43
  go_wp2_with ((with_reducible refine gate_builtin (b := .append) (xs := #[.tmp 12, .tmp 13]) rfl ?_); (go_loud (refine ownB_push (w0 := w.alloc (.cells Z0 23)) (w.heap.size + 1) rfl (.tmp 12) (.tmp 13) rfl _ bs 128 rfl rfl HPU.out.1 HPU.out.2.1 HPU.out.2.2 HL9.out ?_)); intro v1 w1 ho1 hb1)
  have HO := Lib.hid (show OwnB w1 (w.heap.size + 1) v1 (preP bs 0) from ho1)
  have HB := Lib.hid hb1
  clear ho1 hb1 HPU HOB kb
  obtain ⟨W1, hW1⟩ : ∃ W, w.alloc (.cells Z0 23) = W := ⟨_, rfl⟩
  rw [hW1] at HB HW1 HB1 H1
  obtain ⟨b0, hb0⟩ : ∃ b, w.heap.size = b := ⟨_, rfl⟩
  rw [hb0] at HW1 HB1 H1 HO HB ⊢
  obtain ⟨b1, hb1⟩ : ∃ b, b0 + 1 = b := ⟨_, rfl⟩
  rw [hb1] at HO HB HW1
  have HBB := Lib.hid (show w.heap.size = b0 ∧ W1.heap.size = b1 ∧ b0 + 1 = b1 from ⟨hb0, HW1.out.symm, hb1⟩)
  have HB0 := Lib.hid (show b1 ≤ w1.heap.size from by have := HB.out.size; have := HBB.out; omega)
  clear hW1 hb0 hb1
  go_loopw [3] (fun v wr => ∃ m : Nat, m ≤ pz ∧ Hid (OwnB wr b1 v (preP bs m) ∧ Below b1 W1 wr ∧ b1 ≤ wr.heap.size)) (fun v _ => match v with | .slice _ l _ => nb + 1 + pz - l | _ => 0)
  case atStart => exact ⟨0, by omega, Lib.hid ⟨HO.out, HB.out, HB0.out⟩⟩
  case round =>
    obtain ⟨m, hm, H⟩ := hrel
    obtain ⟨ho, hbl, hsz⟩ := H.out
    obtain ⟨A, c, hv, hc, -⟩ := ho.reads (by rw [preP_len, HNB.out]; have := HL.out; have := HPZ.out.2.1; omega)
    subst hv
    have HO := Lib.hid ho
    have HBL := Lib.hid hbl
    have HSZ2 := Lib.hid hsz
    have HPL := Lib.hid (show (preP bs m).length ≤ 900000 by rw [preP_len, HNB.out]; have := HL.out; have := HPZ.out.2.1; omega)
    have hpl : (preP bs m).length = nb + 1 + m := by rw [preP_len, HNB.out]
    have HPLE := Lib.hid hpl
    obtain ⟨q, hq⟩ : ∃ q, (preP bs m).length = q := ⟨_, rfl⟩
    rw [hq] at hpl hc HO HPL HPLE ⊢
    have hqm : (q : Int).tmod 64 = (q : Int) % 64 := Int.tmod_eq_emod_of_nonneg (by omega)
    have HQ := Lib.hid hq
    by_cases hlt : m < pz
    · have hne : ((q : Int) % 64 == 56) = false := by rw [beq_eq_false_iff_ne]; have := HPZ.out.2.2.2 m hlt; omega
      have hne2 : ((q : Int) % 64 != 56) = true := by simp only [bne, hne]; rfl
      clear ho hbl hsz H hpl hq hc
      go_wp2_with ((with_reducible refine gate_builtin (b := .append) (xs := #[.tmp 19, .tmp 20]) rfl ?_); (go_loud (refine ownB_push (w0 := W1) b1 rfl (.tmp 19) (.tmp 20) rfl _ (preP bs m) 0 rfl rfl HO.out HBL.out HSZ2.out (by rw [HQ.out]; exact HPL.out) ?_)); intro v1 w1 ho1 hb1; rw [← preP_step] at ho1)
      have HO2 := Lib.hid ho1
      have HB2 := Lib.hid hb1
      have HS2 := Lib.hid (show b1 ≤ w1.heap.size from by have := hb1.size; have := HBB.out; omega)
      clear ho1 hb1 hqm hne hne2
      go_wp2
      go_roundw
      case rel => exact ⟨m + 1, by omega, Lib.hid ⟨HO2.out, HB2.out, HS2.out⟩⟩
      case measure =>
        obtain ⟨A2, c2, hv2, -, -⟩ := HO2.out.reads (by rw [preP_len, HNB.out]; have := HL.out; have := HPZ.out.2.1; omega)
        subst hv2
        rw [preP_len, HNB.out]
        have := HPLE.out
        show nb + 1 + pz - (nb + 1 + (m + 1)) < nb + 1 + pz - q
        omega
    · obtain rfl : m = pz := by omega
      have he : ((q : Int) % 64 == 56) = true := by rw [beq_iff_eq]; have := HPZ.out.2.2.1; omega
      have hne2 : ((q : Int) % 64 != 56) = false := by simp only [bne, he]; rfl
      have hq56 : (q : Int) % 64 = 56 := by have := HPZ.out.2.2.1; omega
      obtain ⟨N, hN⟩ : ∃ N, 8 * nb = N := ⟨_, rfl⟩
      have hn8 : (nb : Int) * 8 = (N : Int) := by omega
      have hnb2 : (nb : Int) ≤ 800000 := by have := HL.out; omega
      have hs : S.size = nb := HSZ.out
      have HN := Lib.hid (show 8 * nb = N ∧ N ≤ 6400000 by have := HL.out; omega)
      have HO0 := Lib.hid (show OwnB wr b1 (.slice A q c) (preP bs m ++ (great 8 N).take 0) by rw [List.take_zero, List.append_nil]; exact HO.out)
      clear ho hbl hsz H hpl hq hc hlt hm HO hN
      go_wp2_with fail
      have HPL := Lib.hid (show (preP bs m).length ≤ 900000 ∧ (preP bs m).length = nb + 1 + m by rw [preP_len, HNB.out]; have := HL.out; have := HPZ.out.2.1; omega)
      obtain ⟨PP, hPP⟩ : ∃ P, preP bs m = P := ⟨_, rfl⟩
      rw [hPP] at HO0 HPL
      have HPP := Lib.hid hPP
      clear hPP he hne2 hq56 hn8 hnb2 hs hqm
      go_loopw [3, 5] (fun v i wx => ∃ k : Nat, k ≤ 8 ∧ i = .int .i64 (k : Int) ∧ Hid (OwnB wx b1 v (PP ++ (great 8 N).take k) ∧ Below b1 W1 wx ∧ b1 ≤ wx.heap.size)) (fun _ i _ => (8 - intOf i).toNat)
      case atStart => exact ⟨0, by omega, rfl, Lib.hid ⟨HO0.out, HBL.out, HSZ2.out⟩⟩
      case round =>
        obtain ⟨k, hk, rfl, H⟩ := hrel
        obtain ⟨ho, hbl, hsz⟩ := H.out
        have HO := Lib.hid ho
        have HBK := Lib.hid hbl
        have HSK := Lib.hid hsz
        clear ho hbl hsz H
        by_cases hlt : k < 8
        · obtain ⟨wo, rfl⟩ : ∃ wo : World, wo = wr := ⟨_, rfl⟩
          go_wp2_with fail
          go_loop [6, 7] (fun d j => ∃ t : Nat, t ≤ 7 - k ∧ j = .int .i64 (t : Int) ∧ d = .int .u64 ((N / 256 ^ t : Nat) : Int)) (fun _ j => (7 - k - (intOf j).toNat))
          case atStart => exact ⟨0, by omega, rfl, by simp⟩
          case round =>
            obtain ⟨t, ht, rfl, rfl⟩ := hrel
            have hdd : N / 256 ^ (t + 1) = N / 256 ^ t / 256 := by rw [Nat.pow_succ, Nat.div_div_eq_div_mul]
            have hDl : N / 256 ^ t ≤ N := Nat.div_le_self _ _
            have hNl := HN.out.2
            have hgt := great_take N k hlt
            obtain ⟨D, hD⟩ : ∃ D, N / 256 ^ t = D := ⟨_, rfl⟩
            rw [hD] at hdd hDl ⊢
            have HDD := Lib.hid hdd
            have hD2 : (D : Int) ≤ 6400000 := by omega
            by_cases hlt2 : t < 7 - k
            · have h7 : (t : Int) < 7 - (k : Int) := by omega
              clear hgt hdd hDl hD hNl
              go_wp2_with fail
              go_round
              case rel => exact ⟨t + 1, by omega, by go_num, by rw [HDD.out]; exact congrArg (Value.int .u64) (by omega)⟩
              case measure => simp only [intOf]; omega
            · obtain rfl : t = 7 - k := by omega
              have h7 : ¬ (((7 - k : Nat) : Int) < 7 - (k : Int)) := by omega
              have h7b : ((7 - k : Nat) : Int) = 7 - (k : Int) := by omega
              rw [hD] at hgt
              obtain ⟨P, hP⟩ : ∃ P : Int, ((D % 256 : Nat) : Int) = P := ⟨_, rfl⟩
              rw [hP] at hgt
              have hP2 : (D : Int) % 256 = P := by omega
              have hP3 : IntKind.u8.wrap P = P := by rw [IntKind.wrap_u8]; omega
              have hP4 : P % 256 = P := by omega
              have HGT := Lib.hid (show PP ++ (great 8 N).take (k + 1) = (PP ++ (great 8 N).take k) ++ [P] by rw [hgt, List.append_assoc])
              have HLE := Lib.hid (show (PP ++ (great 8 N).take k).length ≤ 900000 by have := HPL.out; have := HL.out; have := HPZ.out.2.1; rw [List.length_append, List.length_take, great_len]; omega)
              clear hgt hdd hDl hD hNl hP
              rw [h7b]
              go_wp2_with ((with_reducible refine gate_builtin (b := .append) (xs := #[.tmp 39, .tmp 43]) rfl ?_); (go_loud (refine ownB_push (w0 := W1) b1 rfl (.tmp 39) (.tmp 43) rfl _ (PP ++ (great 8 N).take k) P rfl rfl HO.out HBK.out HSK.out HLE.out ?_)); intro v1 w1 ho1 hb1; rw [← HGT.out] at ho1)
              have HO2 := Lib.hid ho1
              have HB2 := Lib.hid hb1
              have HS2 := Lib.hid (show b1 ≤ w1.heap.size from by have := hb1.size; have := HBB.out; omega)
              clear ho1 hb1 hP2 hP3 hP4 h7 h7b hD2
              go_wp2
              go_roundw
              case rel => exact ⟨k + 1, by omega, by go_num, Lib.hid ⟨HO2.out, HB2.out, HS2.out⟩⟩
              case measure => simp only [intOf]; omega
        · obtain rfl : k = 8 := by omega
          rw [show ((8 : Nat) : Int) = 8 from rfl]
          have hpad : PP ++ (great 8 N).take 8 = padB bs := by
            rw [← HPP.out, ← HPZ.out.1, ← HN.out.1, ← HNB.out, List.take_of_length_le (by rw [great_len]; omega)]
            exact preP_pad bs
          have ho := HO.out
          rw [hpad] at ho
          have hpl : (padB bs).length % 64 = 0 := padB_len bs
          have hpb : ∀ x ∈ padB bs, 0 ≤ x ∧ x < 256 := padB_bytes HBY.out
          have hpl2 : (padB bs).length ≤ 900100 := by
            rw [← hpad, List.length_append]
            have := HPL.out.1
            simp [great_len]
            omega
          have hst : stOf (padB bs) = stN (padB bs) ((padB bs).length / 64) := rfl
          have hsum : sumP bs = outB (stOf (padB bs)) := rfl
          obtain ⟨pd, hpd⟩ : ∃ p, padB bs = p := ⟨_, rfl⟩
          rw [hpd] at ho hpl hpb hpl2 hst hsum
          obtain ⟨A, c, hv, hc, hC⟩ := ho.reads (by omega)
          subst hv
          obtain ⟨LP, hLP⟩ : ∃ l, pd.length = l := ⟨_, rfl⟩
          rw [hLP] at hpl hpl2 hst hc hC ⊢
          have HC := Lib.hid hC
          have HLP := Lib.hid (And.intro hLP (And.intro hpl (And.intro hpb (And.intro hpl2 (And.intro hst hsum)))))
          have HCC := Lib.hid hc
          have HBK0 := Lib.hid (HB1.out.trans (Below.mono HBK.out (by have := HBB.out; omega)))
          have H10 := Lib.hid ((HBK.out.block b0 (by have := HBB.out; omega)).trans H1.out)
          have hz8 := (zero_of_info info8).1
          obtain ⟨Z8, hZ8⟩ : ∃ Z, s8 ⟨0, 0, 0, 0, 0, 0, 0, 0⟩ = Z := ⟨_, rfl⟩
          rw [hZ8] at hz8
          obtain ⟨F8, hF8⟩ : ∃ Z, s8 F0 = Z := ⟨_, rfl⟩
          have HF8 := Lib.hid (And.intro (show (Tryd.prog.info? 95).map (·.size) = some F8.size from by rw [← hF8]; exact s8_size _) (And.intro (show Z8.size = F8.size from by rw [← hF8, ← hZ8]; rfl) (show F8.all (·.oneCell') = true from by rw [← hF8]; exact s8_one _)))
          have HFF := Lib.hid hF8
          clear hpad ho hpl hpb hpl2 hst hsum hpd hLP hC hc hZ8 hF8 HO hk hlt
          go_wp2_with fail
          refine (rfirst_calls _).mono ?_
          rw [HFF.out]
          rintro e w2 ⟨rfl, hb2⟩
          have HC2 := Lib.hid (Kd.C_below HC.out hb2)
          have HB2 := Lib.hid (HBK0.out.trans (Below.mono hb2 (by have := HSK.out; have := HBB.out; omega)))
          have H12 := Lib.hid ((hb2.block b0 (by have := HSK.out; have := HBB.out; omega)).trans H10.out)
          have HS2 := Lib.hid (show b0 < w2.heap.size by have := hb2.size; have := HSK.out; have := HBB.out; omega)
          clear hb2 HC HBK0 H10
          go_wp2_with ((with_reducible show wpList _ _ _ (Oper.mk _ (Op.store _ _ _) _ _ _ _ :: _) _ _); (go_loud (refine wpl_store_new rfl 95 (.tmp 8) (.tmp 45) rfl Z8 F8 rfl rfl HF8.out.1 HF8.out.2.1 HF8.out.2.2 ?_)))
          have HN8 := Lib.hid (show (w2.alloc (.cells F8 95)).heap[w2.heap.size]? = some (.cells (s8 (stN pd 0)) 95 (0, 0)) by rw [heap_alloc_new, show stN pd 0 = F0 from rfl, HFF.out])
          have HB3 := Lib.hid (below_alloc (Below.refl w2.heap.size w2) (.cells F8 95))
          obtain ⟨W3, hW3⟩ : ∃ W, w2.alloc (.cells F8 95) = W := ⟨_, rfl⟩
          rw [hW3] at HN8 HB3 ⊢
          obtain ⟨b8, hb8⟩ : ∃ b, w2.heap.size = b := ⟨_, rfl⟩
          have hs2 := HS2.out
          rw [hb8] at HN8 HB3 hs2 ⊢
          have HW8 := Lib.hid (And.intro hb8 hs2)
          clear hW3 hb8 hs2 hz8
          simp only [Act.put, List.setIfInBounds_toArray, List.set_cons_succ, List.set_cons_zero]
          go_loopw [3] (fun v wx => ∃ (j : Nat) (A' : Option Addr) (c' : Nat), 64 * j ≤ LP ∧ v = .slice A' (LP - 64 * j) c' ∧ LP - 64 * j ≤ c' ∧ Hid (Kd.C (Kd.int .u8) w2 A' (pd.drop (64 * j)).length (pd.drop (64 * j)) ∧ wx.heap[b8]? = some (.cells (s8 (stN pd j)) 95 (0, 0)) ∧ Below b8 w2 wx)) (fun v _ => match v with | .slice _ l _ => l | _ => 0)
          case atStart => exact ⟨0, A, c, by omega, by simp, by have := HCC.out; omega, Lib.hid ⟨by rw [Nat.mul_zero, List.drop_zero, HLP.out.1]; exact HC2.out, HN8.out, HB3.out⟩⟩
          case round =>
            obtain ⟨j, A', c', hj, rfl, hc', H⟩ := hrel
            obtain ⟨hC, h8, hbl⟩ := H.out
            obtain ⟨l, hl⟩ : ∃ l, LP - 64 * j = l := ⟨_, rfl⟩
            have hdl : (pd.drop (64 * j)).length = l := by rw [List.length_drop, HLP.out.1]; exact hl
            rw [hl] at hc' ⊢
            by_cases hlt : 64 * j < LP
            · have hl64 : 64 ≤ l := by have := HLP.out.2.1; omega
              obtain ⟨st, hst⟩ : ∃ st, stN pd j = st := ⟨_, rfl⟩
              have hwd : st.wd := by rw [← hst]; exact stN_wd pd j
              rw [hst] at h8
              have hnx : stN pd (j + 1) = stepS st ((pd.drop (64 * j)).take 64) := by rw [← hst]; rfl
              have hCw := Kd.C_below hC (show Below w2.heap.size w2 wr.drew from by rw [HW8.out.1]; exact below_drew hbl)
              rw [hdl] at hCw
              have htl : ((pd.drop (64 * j)).take 64).length = 64 := by rw [List.length_take, hdl]; omega
              have hC64 := Kd.C_take (m := 64) (by rw [hdl]; exact hCw) (by rw [hdl]; exact hl64)
              rw [htl] at hC64
              have htb : ∀ x ∈ (pd.drop (64 * j)).take 64, 0 ≤ x ∧ x < 256 := fun x hx => HLP.out.2.2.1 x (List.mem_of_mem_drop (List.mem_of_mem_take hx))
              have hstep := step_calls st A' c' _ wr.drew hwd hC64 (by omega) htl htb
              obtain ⟨ns, hns⟩ : ∃ s', stepS st ((pd.drop (64 * j)).take 64) = s' := ⟨_, rfl⟩
              rw [hns] at hstep hnx
              obtain ⟨ra, rb, rc, rd', re, rf, rg, rh⟩ := ns
              have HSTEP := Lib.hid (show Calls Tryd.prog 56 #[.agg #[.int .u32 st.a, .int .u32 st.b, .int .u32 st.c, .int .u32 st.d, .int .u32 st.e, .int .u32 st.f, .int .u32 st.g, .int .u32 st.h], .slice A' 64 c'] wr.drew fun e w' => e = .returned (.agg #[.int .u32 ra, .int .u32 rb, .int .u32 rc, .int .u32 rd', .int .u32 re, .int .u32 rf, .int .u32 rg, .int .u32 rh]) ∧ Below wr.drew.heap.size wr.drew w' from hstep)
              have h8d : wr.drew.heap[b8]? = some (.cells (s8 st) 95 (0, 0)) := h8
              have c0 := (blk_cell h8d 0).trans (show (s8 st)[0]? = some (.int .u32 st.a) from rfl)
              have c1 := (blk_cell h8d 1).trans (show (s8 st)[1]? = some (.int .u32 st.b) from rfl)
              have c2 := (blk_cell h8d 2).trans (show (s8 st)[2]? = some (.int .u32 st.c) from rfl)
              have c3 := (blk_cell h8d 3).trans (show (s8 st)[3]? = some (.int .u32 st.d) from rfl)
              have c4 := (blk_cell h8d 4).trans (show (s8 st)[4]? = some (.int .u32 st.e) from rfl)
              have c5 := (blk_cell h8d 5).trans (show (s8 st)[5]? = some (.int .u32 st.f) from rfl)
              have c6 := (blk_cell h8d 6).trans (show (s8 st)[6]? = some (.int .u32 st.g) from rfl)
              have c7 := (blk_cell h8d 7).trans (show (s8 st)[7]? = some (.int .u32 st.h) from rfl)
              have HW5 := Lib.hid (show ∀ w5 : World, Below wr.drew.heap.size wr.drew w5 → (w5.heap[b8]? = some (.cells (s8 st) 95 (0, 0)) ∧ Below b8 w2 w5) from fun w5 h5 => ⟨(h5.block b8 (blk_lt h8d)).trans h8d, (below_drew hbl).trans (Below.mono h5 (Nat.le_of_lt (blk_lt h8d)))⟩)
              have hCd : Kd.C (Kd.int .u8) w2 (if c' = 64 then A' else A'.map (·.add 64)) (pd.drop (64 * (j + 1))).length (pd.drop (64 * (j + 1))) := by
                have h := Kd.C_drop (m := 64) (c := c') hC (by rw [hdl]; exact hl64) (by rw [hdl]; exact hc')
                rw [List.drop_drop, show 64 * j + 64 = 64 * (j + 1) by omega] at h
                exact h
              obtain ⟨A2, hA2⟩ : ∃ A2, (if c' = 64 then A' else A'.map (·.add 64)) = A2 := ⟨_, rfl⟩
              have hs1 := fun W => slice_first W A' l c' (by omega)
              have hs2 : ∀ W, (Instr.sliceAt 28 (.slice A' l c') (some (.int .i64 64)) none none).run Tryd.prog W = .ok (.slice (if c' = 64 then A' else A'.map (·.add 64)) (l - 64) (c' - 64)) W := fun W => slice_t W A' l c' 64 hl64
              rw [hA2] at hCd hs2
              have HCD := Lib.hid hCd
              have HNX := Lib.hid hnx
              have HJJ := Lib.hid (show 64 * (j + 1) ≤ LP ∧ LP - 64 * (j + 1) = l - 64 ∧ l - 64 ≤ c' - 64 ∧ l - 64 < l by omega)
              have l0 : (0 : Int) < (l : Int) := by omega
              have l1 : (64 : Int) ≤ (l : Int) := by omega
              have hb8s := HW8.out
              clear hC h8 hbl H hl hdl hst hwd hnx hCw htl hC64 htb hstep hns h8d hCd hA2 hj hc' hb8s
              go_wp2_with fail
              go_region_law ((go_simp; go_at_call 56; (with_reducible refine HSTEP.out.mono ?_); rintro e w5 ⟨rfl, hb5⟩; have H85 := Lib.hid (HW5.out w5 hb5).1; have HB5 := Lib.hid (HW5.out w5 hb5).2; have f0 := blk_frozen H85.out 0; have f1 := blk_frozen H85.out 1; have f2 := blk_frozen H85.out 2; have f3 := blk_frozen H85.out 3; have f4 := blk_frozen H85.out 4; have f5 := blk_frozen H85.out 5; have f6 := blk_frozen H85.out 6; have f7 := blk_frozen H85.out 7; have g0 := (blk_cell H85.out 0).trans (show (s8 st)[0]? = some (.int .u32 st.a) from rfl); have g1 := (blk_cell H85.out 1).trans (show (s8 st)[1]? = some (.int .u32 st.b) from rfl); have g2 := (blk_cell H85.out 2).trans (show (s8 st)[2]? = some (.int .u32 st.c) from rfl); have g3 := (blk_cell H85.out 3).trans (show (s8 st)[3]? = some (.int .u32 st.d) from rfl); have g4 := (blk_cell H85.out 4).trans (show (s8 st)[4]? = some (.int .u32 st.e) from rfl); have g5 := (blk_cell H85.out 5).trans (show (s8 st)[5]? = some (.int .u32 st.f) from rfl); have g6 := (blk_cell H85.out 6).trans (show (s8 st)[6]? = some (.int .u32 st.g) from rfl); have g7 := (blk_cell H85.out 7).trans (show (s8 st)[7]? = some (.int .u32 st.h) from rfl); clear hb5))
              all_goals
                clear c0 c1 c2 c3 c4 c5 c6 c7 f0 f1 f2 f3 f4 f5 f6 f7 g0 g1 g2 g3 g4 g5 g6 g7
                go_wp2_with fail
                refine ⟨⟨j + 1, A2, c' - 64, HJJ.out.1, by rw [HJJ.out.2.1], by rw [HJJ.out.2.1]; exact HJJ.out.2.2.1, Lib.hid ⟨HCD.out, by rw [HNX.out]; exact up8 H85.out, upbelow8 HB5.out (Nat.le_refl _)⟩⟩, HJJ.out.2.2.2⟩
            · have hl0 : l = 0 := by omega
              subst hl0
              have hj2 : j = LP / 64 := by have := HLP.out.2.1; omega
              obtain ⟨st, hst⟩ : ∃ st, stOf pd = st := ⟨_, rfl⟩
              have hwd : st.wd := by rw [← hst]; exact stOf_wd pd
              rw [hj2, ← HLP.out.2.2.2.2.1, hst] at h8
              have HSUM := Lib.hid (show sumP bs = outB st by rw [HLP.out.2.2.2.2.2, hst])
              have HWD := Lib.hid hwd
              have H8 := Lib.hid h8
              have hw8 := HW8.out
              have H14 := Lib.hid ((hbl.block b0 (by omega)).trans H12.out)
              have HB4 := Lib.hid (HB2.out.trans (Below.mono hbl (by omega)))
              have HS4 := Lib.hid (show b8 < wr.heap.size from blk_lt h8)
              clear hC h8 hbl H hl hdl hst hwd hj hc' hlt hj2 hw8
              go_wp2_with fail
              have HN9 := Lib.hid (show (wr.alloc (.cells Z0 23)).heap[wr.heap.size]? = some (.cells (nums .u8 (outRow st 0)).toArray 23 (0, 0)) by rw [heap_alloc_new, show outRow st 0 = List.replicate 32 0 from rfl, HZ0.out])
              have H85 := Lib.hid (blk_alloc H8.out (.cells Z0 23))
              have H15 := Lib.hid (blk_alloc H14.out (.cells Z0 23))
              have HB5 := Lib.hid (HB4.out.alloc (by have := HS4.out; have := HW8.out; omega) (.cells Z0 23))
              obtain ⟨W5, hW5⟩ : ∃ W, wr.alloc (.cells Z0 23) = W := ⟨_, rfl⟩
              rw [hW5] at HN9 H85 H15 HB5 ⊢
              obtain ⟨b9, hb9⟩ : ∃ b, wr.heap.size = b := ⟨_, rfl⟩
              have hs4 := HS4.out
              rw [hb9] at HN9 hs4 ⊢
              have HOR := Lib.hid (show b0 < b8 ∧ b8 < b9 from ⟨HW8.out.2, hs4⟩)
              have HU30 := Lib.hid Tryd.underlying23
              clear hW5 hb9 hs4 hz30
              go_loopw [10] (fun i wx => ∃ k : Nat, k ≤ 8 ∧ i = .int .i64 (k : Int) ∧ Hid (wx.heap[b9]? = some (.cells (nums .u8 (outRow st k)).toArray 23 (0, 0)) ∧ wx.heap[b8]? = some (.cells (s8 st) 95 (0, 0)) ∧ wx.heap[b0]? = some (.cells Z0 23 (0, 0)) ∧ Below b0 w wx)) (fun i _ => (8 - intOf i).toNat)
              case atStart => exact ⟨0, by omega, rfl, Lib.hid ⟨HN9.out, H85.out, H15.out, HB5.out⟩⟩
              case round =>
                obtain ⟨k, hk, rfl, H⟩ := hrel
                obtain ⟨h9, h8, h0, hbl⟩ := H.out
                by_cases hlt : k < 8
                · have hx : Wd (st.at8 k) := by
                    have h := HWD.out
                    match k, hlt with
                    | 0, _ => exact h.1.1
                    | 1, _ => exact h.1.2.1
                    | 2, _ => exact h.1.2.2.1
                    | 3, _ => exact h.1.2.2.2
                    | 4, _ => exact h.2.1
                    | 5, _ => exact h.2.2.1
                    | 6, _ => exact h.2.2.2.1
                    | 7, _ => exact h.2.2.2.2
                  have hg4 := great4 hx
                  have hos := fun a b c d h => out_set st k hlt a b c d h
                  have cx := (blk_cell h8 k).trans (show (s8 st)[k]? = some (.int .u32 (st.at8 k)) by rw [s8_arr]; exact arrF_get _ hlt)
                  have hol := outRow_len st k (by omega)
                  have hcell : ∀ o, o < 32 → ∃ z, wr.cell? ⟨b9, o, none⟩ = some (.int .u8 z) := fun o ho => by
                    refine ⟨(outRow st k)[o]'(by omega), ?_⟩
                    rw [blk_cell h9]
                    simp [nums, show o < (outRow st k).length by omega]
                  obtain ⟨x, hxx⟩ : ∃ x, st.at8 k = x := ⟨_, rfl⟩
                  rw [hxx] at hx hg4 cx
                  obtain ⟨va, hva⟩ : ∃ v, x / 16777216 = v := ⟨_, rfl⟩
                  obtain ⟨ub, hub⟩ : ∃ v, x / 65536 = v := ⟨_, rfl⟩
                  obtain ⟨vb, hvb⟩ : ∃ v, ub % 256 = v := ⟨_, rfl⟩
                  obtain ⟨uc, huc⟩ : ∃ v, x / 256 = v := ⟨_, rfl⟩
                  obtain ⟨vc, hvc⟩ : ∃ v, uc % 256 = v := ⟨_, rfl⟩
                  obtain ⟨vd, hvd⟩ : ∃ v, x % 256 = v := ⟨_, rfl⟩
                  rw [hva, hub, hvb, huc, hvc, hvd] at hg4
                  have x0 : 0 ≤ x := hx.1
                  have x1 : x < 4294967296 := hx.2
                  have wa : IntKind.u8.wrap va = va := by rw [IntKind.wrap_u8]; omega
                  have wb : IntKind.u8.wrap vb = vb := by rw [IntKind.wrap_u8]; omega
                  have wc : IntKind.u8.wrap vc = vc := by rw [IntKind.wrap_u8]; omega
                  have wd : IntKind.u8.wrap vd = vd := by rw [IntKind.wrap_u8]; omega
                  have ma : va % 256 = va := by omega
                  have mb : vb % 256 = vb := by omega
                  have mc : vc % 256 = vc := by omega
                  have md : vd % 256 = vd := by omega
                  obtain ⟨o0, ho0⟩ : ∃ o, 4 * k = o := ⟨_, rfl⟩
                  obtain ⟨za, ca⟩ := hcell o0 (by omega)
                  obtain ⟨zb, cb⟩ := hcell (o0 + 1) (by omega)
                  obtain ⟨zc, cc⟩ := hcell (o0 + 2) (by omega)
                  obtain ⟨zd, cd⟩ := hcell (o0 + 3) (by omega)
                  obtain ⟨o1, ho1⟩ : ∃ o, o0 + 1 = o := ⟨_, rfl⟩
                  obtain ⟨o2, ho2⟩ : ∃ o, o0 + 2 = o := ⟨_, rfl⟩
                  obtain ⟨o3, ho3⟩ : ∃ o, o0 + 3 = o := ⟨_, rfl⟩
                  rw [ho1] at cb
                  rw [ho2] at cc
                  rw [ho3] at cd
                  have e0 : 4 * (k : Int) = (o0 : Int) := by omega
                  have e1 : (o0 : Int) + 1 = (o1 : Int) := by omega
                  have e2 : (o0 : Int) + 2 = (o2 : Int) := by omega
                  have e3 : (o0 : Int) + 3 = (o3 : Int) := by omega
                  have p0 : (o0 : Int) < 32 := by omega
                  have p1 : (o1 : Int) < 32 := by omega
                  have p2 : (o2 : Int) < 32 := by omega
                  have p3 : (o3 : Int) < 32 := by omega
                  have i1 : (k : Int) < 8 := by omega
                  have fr := fun o => blk_frozen h9 o
                  have fa := fr o0
                  have fb := fr o1
                  have fc := fr o2
                  have fd := fr o3
                  have hor := HOR.out
                  have n1 : o1 ≠ o0 := by omega
                  have n2 : o2 ≠ o0 ∧ o2 ≠ o1 := by omega
                  have n3 : o3 ≠ o0 ∧ o3 ≠ o1 ∧ o3 ≠ o2 := by omega
                  have n89 : ¬ (b8 = b9) := by omega
                  have HN := Lib.hid (show ((((wr.setCell ⟨b9, o0, none⟩ (.int .u8 va)).setCell ⟨b9, o1, none⟩ (.int .u8 vb)).setCell ⟨b9, o2, none⟩ (.int .u8 vc)).setCell ⟨b9, o3, none⟩ (.int .u8 vd)).heap[b9]? = some (.cells (nums .u8 (outRow st (k + 1))).toArray 23 (0, 0)) ∧ (∀ i, i ≠ b9 → ((((wr.setCell ⟨b9, o0, none⟩ (.int .u8 va)).setCell ⟨b9, o1, none⟩ (.int .u8 vb)).setCell ⟨b9, o2, none⟩ (.int .u8 vc)).setCell ⟨b9, o3, none⟩ (.int .u8 vd)).heap[i]? = wr.heap[i]?) ∧ Below b0 w ((((wr.setCell ⟨b9, o0, none⟩ (.int .u8 va)).setCell ⟨b9, o1, none⟩ (.int .u8 vb)).setCell ⟨b9, o2, none⟩ (.int .u8 vc)).setCell ⟨b9, o3, none⟩ (.int .u8 vd)) from by
                    have hos2 := hos va vb vc vd (by rw [hxx]; exact hg4)
                    rw [ho0, ho1, ho2, ho3] at hos2
                    refine ⟨?_, fun i hi => ?_, ?_⟩
                    · rw [← hos2]
                      exact blk_set (blk_set (blk_set (blk_set h9 o0 _) o1 _) o2 _) o3 _
                    · exact (Below.heap_setCell _ ⟨b9, o3, none⟩ _ i hi).trans ((Below.heap_setCell _ ⟨b9, o2, none⟩ _ i hi).trans ((Below.heap_setCell _ ⟨b9, o1, none⟩ _ i hi).trans (Below.heap_setCell _ ⟨b9, o0, none⟩ _ i hi)))
                    · exact (((hbl.setCell (p := ⟨b9, o0, none⟩) (show b0 ≤ b9 by omega) _).setCell (p := ⟨b9, o1, none⟩) (show b0 ≤ b9 by omega) _).setCell (p := ⟨b9, o2, none⟩) (show b0 ≤ b9 by omega) _).setCell (p := ⟨b9, o3, none⟩) (show b0 ≤ b9 by omega) _)
                  have H88 := Lib.hid (And.intro h8 h0)
                  clear hx hg4 hos hol hcell hxx fr ho0 ho1 ho2 ho3 h9 h8 h0 hbl H hor
                  go_wp2_with fail
                  have hor := HOR.out
                  refine ⟨⟨k + 1, by omega, by go_num, Lib.hid ⟨HN.out.1, (HN.out.2.1 b8 (by omega)).trans H88.out.1, (HN.out.2.1 b0 (by omega)).trans H88.out.2, HN.out.2.2⟩⟩, by simp only [intOf]; omega⟩
                · obtain rfl : k = 8 := by omega
                  obtain ⟨RA, hRA⟩ : ∃ R, (nums .u8 (sumP bs)).toArray = R := ⟨_, rfl⟩
                  have hfin : nums .u8 (outRow st 8) = nums .u8 (sumP bs) := by
                    rw [HSUM.out, ← greats_8]
                    simp [outRow]
                  have hsl : (nums .u8 (sumP bs)).length = 32 := by simp [nums, sumP_len]
                  have HF := Lib.hid (show wr.heap[b9]? = some (.cells RA 23 (0, 0)) by rw [h9, hfin, hRA])
                  have HRS := Lib.hid (show (Tryd.prog.info? 23).map (·.size) = some RA.size ∧ Z0.size = RA.size ∧ RA.all (·.oneCell') = true by
                    have h32 : RA.size = 32 := by rw [← hRA]; exact hsl
                    refine ⟨by rw [h32]; exact (zero_of_info info32b).2, by rw [h32, ← HZ0.out]; rfl, by rw [← hRA]; exact all_oneCell_toArray (nums_one _ _)⟩)
                  have HRR := Lib.hid hRA
                  have HZ := Lib.hid h0
                  have HBL2 := Lib.hid hbl
                  clear h9 h8 h0 hbl H hRA hfin hsl hk hlt
                  rw [show ((8 : Nat) : Int) = 8 from rfl]
                  go_wp2_with (first | ((with_reducible show wpList _ _ _ (Oper.mk _ (Op.load _ _) _ _ _ _ :: _) _ _); (go_loud (refine wpList_load_row rfl 23 (.tmp 9) rfl b9 rfl 23 RA (0, 0) _ HF.out HU30.out rfl HRS.out.1 ?_))) | ((with_reducible show wpList _ _ _ (Oper.mk _ (Op.store _ _ _) _ _ _ _ :: _) _ _); (go_loud (refine wpList_store_row rfl 23 (.tmp 2) (.tmp 96) rfl b0 RA rfl rfl 23 Z0 HZ.out HRS.out.1 HRS.out.2.1 HRS.out.2.2 ?_))))
                  exact bodyPost_ret (results_cell_row rfl _ _ b0 23 RA (0, 0) _ rfl (setRow_heap _ _ _ _ _ _ HZ.out) HU30.out rfl HRS.out.1) rfl ⟨by rw [HRR.out], by rw [HBB.out.1]; exact below_setRow HBL2.out (Nat.le_refl _) _⟩
end Go.Proofs.YtefnpecncacepaaDoor.Hand

/- The document's double sum: walked. -/
namespace Go.Proofs.YtefnpecncacepaaDoor.Hand
open Go Go.RowKit Go.Proofs.YtefnpecncacepaaDoor.Plain Go.Proofs.YtefnpecncacepaaDoor.PAll Go.Proofs.YtefnpecncacepaaDoorW.PrintWords Go.Proofs.YtefnpecncacepaaDoorW.PrintLast Go.Proofs.YtefnpecncacepaaDoorW.PrintMore
set_option linter.unusedVariables false
set_option linter.unusedSimpArgs false
set_option maxRecDepth 100000
theorem arr32b : Tryd.prog.underlying 23 = some (.array (Tryd.prog.arrayLen 23) (Tryd.prog.elem 23)) ∧ Tryd.prog.arrayLen 23 = 32 := ⟨by kernel_rfl, by kernel_rfl⟩
theorem slice_all32 (W : World) (g : Nat) : (Instr.sliceAt 23 (.pointer (some ⟨g, 0, none⟩)) none none none).run Tryd.prog W = .ok (.slice (some ⟨g, 0, none⟩) 32 32) W := by
  rw [run_sliceAt_array_all W 23 ⟨g, 0, none⟩ arr32b.1]
  have z : (sizeOf (Tryd.prog.elem 23)).run Tryd.prog W = .ok 1 W := by rfl
  rw [z, arr32b.2]
  rfl
set_option maxHeartbeats 1000000 in
set_option maxRecDepth 100000 in
theorem rtwice_calls (bs : List Int) (w : World) (hl : bs.length ≤ 800000) (hb : ∀ x ∈ bs, 0 ≤ x ∧ x < 256) :
    Calls Tryd.prog 28 #[.string (strOfNums bs)] w fun e w' => e = .returned (.agg (nums .u8 (twiceP bs)).toArray) ∧ Below w.heap.size w w' := by
  have hz30 := (zero_of_info info32b).1
  obtain ⟨Z0, hZ0⟩ : ∃ C, (nums .u8 (List.replicate 32 0)).toArray = C := ⟨_, rfl⟩
  rw [hZ0] at hz30
  have HU30 := Lib.hid Tryd.underlying23
  have HS := Lib.hid (fun W => rsum_calls bs W hl hb)
  obtain ⟨S1, hS1⟩ : ∃ S, sumP bs = S := ⟨_, rfl⟩
  have hl1 : S1.length = 32 := by rw [← hS1]; exact sumP_len _
  have hb1 : ∀ x ∈ S1, 0 ≤ x ∧ x < 256 := by rw [← hS1]; exact sumP_bytes _
  obtain ⟨S2, hS2⟩ : ∃ S, twiceP bs = S := ⟨_, rfl⟩
  have hS2' : sumP S1 = S2 := by rw [← hS2, ← hS1]; rfl
  have hl2 : S2.length = 32 := by rw [← hS2']; exact sumP_len _
  rw [hS1] at HS
  rw [hS2]
  obtain ⟨RA, hRA⟩ : ∃ R, (nums .u8 S1).toArray = R := ⟨_, rfl⟩
  rw [hRA] at HS
  obtain ⟨RB, hRB⟩ : ∃ R, (nums .u8 S2).toArray = R := ⟨_, rfl⟩
  rw [hRB]
  have h32 : ∀ S : List Int, S.length = 32 → (Tryd.prog.info? 23).map (·.size) = some (nums .u8 S).toArray.size ∧ Z0.size = (nums .u8 S).toArray.size ∧ (nums .u8 S).toArray.all (·.oneCell') = true := fun S hS => by
    have h : (nums .u8 S).toArray.size = 32 := by rw [nums_size]; exact hS
    exact ⟨by rw [h]; exact (zero_of_info info32b).2, by rw [h, ← hZ0]; rfl, all_oneCell_toArray (nums_one _ _)⟩
  have HRA := Lib.hid (hRA ▸ h32 S1 hl1)
  have HRB := Lib.hid (hRB ▸ h32 S2 hl2)
  have HS1 := Lib.hid (And.intro hl1 (And.intro hb1 (And.intro hRA (And.intro hS2' hRB))))
  obtain ⟨T, hT⟩ : ∃ T, strOfNums bs = T := ⟨_, rfl⟩
  rw [hT] at HS ⊢
  have HS2 := Lib.hid (fun W => (show Calls Tryd.prog 43 #[.string (strOfNums S1)] W fun e w' => e = .returned (.agg RB) ∧ Below W.heap.size W w' from by
    have h := rsum_calls S1 W (by omega) hb1
    rwa [hS2', hRB] at h))
  obtain ⟨T1, hT1⟩ : ∃ T, strOfNums S1 = T := ⟨_, rfl⟩
  rw [hT1] at HS2
  have HT1 := Lib.hid hT1
  clear hS1 hl1 hb1 hS2 hS2' hl2 hRA hRB h32 hZ0 hT hT1
  go_enter Tryd.func28, Tryd.ntmps28
  go_wp2_with fail
  refine (HS.out _).mono ?_
  rintro e w1 ⟨rfl, hb1⟩
  have HZ1 := Lib.hid ((hb1.block w.heap.size (by rw [World.size_alloc]; omega)).trans (heap_alloc_new w (.cells Z0 23)))
  have HB1 := Lib.hid ((below_alloc (Below.refl w.heap.size w) (.cells Z0 23)).trans (Below.mono hb1 (by rw [World.size_alloc]; omega)))
  have HW1 := Lib.hid (show w.heap.size < w1.heap.size from Nat.lt_of_lt_of_le (by rw [World.size_alloc]; omega) hb1.size)
  have hs := fun W => slice_all32 W w1.heap.size
  have hn := heap_alloc_new w1 (.cells RA 23)
  have hC := C_of_block (pre := []) (post := []) (k := .u8) (ys := S1) (o := 0) (t := 23) (fr := (0, 0)) (w := w1.alloc (.cells RA 23)) (b := w1.heap.size) (by rw [List.nil_append, List.append_nil, HS1.out.2.2.1]; exact hn) rfl (by rw [HS1.out.1]; decide)
  have hcv := Kd.C_string (P := Tryd.prog) (c := 32) Tryd.underlying28 Tryd.underlying5 Tryd.underlying9 hC
  rw [HS1.out.1, HT1.out] at hcv
  have HZ2 := Lib.hid (blk_alloc HZ1.out (.cells RA 23))
  have HB2 := Lib.hid (HB1.out.alloc (Nat.le_of_lt HW1.out) (.cells RA 23))
  clear hb1 hn hC
  go_wp2_with ((with_reducible show wpList _ _ _ (Oper.mk _ (Op.store _ _ _) _ _ _ _ :: _) _ _); (go_loud (refine wpl_store_new rfl 23 (.tmp 3) (.tmp 5) rfl Z0 RA rfl rfl HRA.out.1 HRA.out.2.1 HRA.out.2.2 ?_)))
  refine (HS2.out _).mono ?_
  rintro e w5 ⟨rfl, hb5⟩
  have HZ5 := Lib.hid ((hb5.block w.heap.size (blk_lt HZ2.out)).trans HZ2.out)
  have HB5 := Lib.hid (HB2.out.trans (Below.mono hb5 HB2.out.size))
  clear hb5 HS2 hs hcv
  go_wp2_with ((with_reducible show wpList _ _ _ (Oper.mk _ (Op.store _ _ _) _ _ _ _ :: _) _ _); (go_loud (refine wpList_store_row rfl 23 (.tmp 2) (.tmp 8) rfl w.heap.size RB rfl rfl 23 Z0 HZ5.out HRB.out.1 HRB.out.2.1 HRB.out.2.2 ?_)))
  exact bodyPost_ret (results_cell_row rfl _ _ w.heap.size 23 RB (0, 0) _ rfl (setRow_heap _ _ _ _ _ _ HZ5.out) HU30.out rfl HRB.out.1) rfl ⟨rfl, below_setRow HB5.out (Nat.le_refl _) _⟩
end Go.Proofs.YtefnpecncacepaaDoor.Hand

/- The law's Ref: a header's document's form: walked. -/
namespace Go.Proofs.YtefnpecncacepaaDoor.Hand
open Go Go.RowKit Go.Proofs.YtefnpecncacepaaDoor.Plain Go.Proofs.YtefnpecncacepaaDoor.PAll Go.Proofs.YtefnpecncacepaaDoorW.PrintWords Go.Proofs.YtefnpecncacepaaDoorW.PrintLast Go.Proofs.YtefnpecncacepaaDoorW.PrintMore
set_option linter.unusedVariables false
set_option linter.unusedSimpArgs false
set_option maxRecDepth 100000
theorem built_ref (v : Int) (p r : List Int) (t b n : Int) (hp : p.length = 32) (hr : r.length = 32) : Tryd.prog.built 37 [(0, .int .u32 v), (1, .agg (nums .u8 p).toArray), (2, .agg (nums .u8 r).toArray), (3, .int .u32 t), (4, .int .u32 b), (5, .int .u32 n)] = some (hcells v p r t b n).toArray := by
  obtain ⟨x0, x1, x2, x3, x4, x5, x6, x7, x8, x9, x10, x11, x12, x13, x14, x15, x16, x17, x18, x19, x20, x21, x22, x23, x24, x25, x26, x27, x28, x29, x30, x31, rfl⟩ := list32 p hp
  obtain ⟨y0, y1, y2, y3, y4, y5, y6, y7, y8, y9, y10, y11, y12, y13, y14, y15, y16, y17, y18, y19, y20, y21, y22, y23, y24, y25, y26, y27, y28, y29, y30, y31, rfl⟩ := list32 r hr
  kernel_rfl
theorem infoR : (Tryd.prog.info? 37).map (fun i => (i.zero, i.size)) = some (some (.agg (hcells 0 z32 z32 0 0 0).toArray), 68) := by kernel_rfl
/-- The two hashes in a header's cells. -/
theorem hash_ranges {w : World} {bx : Nat} {tt : TypeId} (v : Int) (p r : List Int) (t b n : Int) (hp : p.length = 32) (h : w.heap[bx]? = some (.cells (hcells v p r t b n).toArray tt (0, 0))) :
    w.rangeAt bx 1 (nums .u8 p) ∧ w.rangeAt bx 33 (nums .u8 r) := by
  have hl : (nums .u8 p).length = 32 := by simp [nums, hp]
  refine ⟨fun j u hj => ?_, fun j u hj => ?_⟩
  · have hlt := (List.getElem?_eq_some_iff.1 hj).1
    rw [blk_cell h, List.getElem?_toArray]
    unfold hcells
    rw [Nat.add_comm 1 j, List.getElem?_cons_succ, List.getElem?_append_left hlt]
    exact hj
  · have hlt := (List.getElem?_eq_some_iff.1 hj).1
    rw [blk_cell h, List.getElem?_toArray]
    unfold hcells
    rw [show 33 + j = (32 + j) + 1 by omega, List.getElem?_cons_succ, List.getElem?_append_right (by omega), hl, show 32 + j - 32 = j by omega, List.getElem?_append_left hlt]
    exact hj
set_option maxHeartbeats 1000000 in
theorem lref_calls (v : Int) (p r : List Int) (t b n : Int) (w : World) (hp : p.length = 32) (hr : r.length = 32) :
    Calls Tryd.prog 12 #[hV v p r t b n] w fun e w' => e = .returned (hV v p r t b n) ∧ Below w.heap.size w w' := by
  have hbr := built_ref v p r t b n hp hr
  have hz := (zero_of_info infoR).1
  have hr32 := hash_ranges (w := (w.alloc (.cells (hcells v p r t b n).toArray 26)).alloc (.cells (hcells 0 z32 z32 0 0 0).toArray 37)) v p r t b n hp (heap_alloc2_old w _ _)
  obtain ⟨a5, a6, a7⟩ := hcells_at v p r t b n hp hr
  have a0 := hcells_at0 v p r t b n
  have hsz : (Tryd.prog.info? 37).map (·.size) = some (hcells v p r t b n).toArray.size := by
    rw [(zero_of_info infoR).2]
    simp [hcells_len v p r t b n hp hr]
  have hone := hcells_one v p r t b n
  have hzs : (hcells 0 z32 z32 0 0 0).toArray.size = (hcells v p r t b n).toArray.size := by
    simp [hcells_len v p r t b n hp hr, hcells_len 0 z32 z32 0 0 0 (by simp [z32]) (by simp [z32])]
  have hl1 : (nums .u8 p).length = 32 := by simp [nums, hp]
  have hl2 : (nums .u8 r).length = 32 := by simp [nums, hr]
  unfold hV
  obtain ⟨C, hC⟩ : ∃ C, (hcells v p r t b n).toArray = C := ⟨_, rfl⟩
  obtain ⟨Z, hZ⟩ : ∃ C, (hcells 0 z32 z32 0 0 0).toArray = C := ⟨_, rfl⟩
  obtain ⟨P, hP⟩ : ∃ C, nums .u8 p = C := ⟨_, rfl⟩
  obtain ⟨R, hR⟩ : ∃ C, nums .u8 r = C := ⟨_, rfl⟩
  rw [hC, hZ, hP, hR] at hr32
  rw [hP, hR, hC] at hbr
  rw [hZ] at hz
  rw [hC] at hsz hone a0 a5 a6 a7
  rw [hC, hZ] at hzs
  rw [hP] at hl1
  rw [hR] at hl2
  rw [hC]
  have hk := heap_alloc2_old w (.cells C 26) (.cells Z 37)
  have hkz := heap_alloc2_new w (.cells C 26) (.cells Z 37)
  have k0 := (blk_cell hk 0).trans a0
  have k65 := (blk_cell hk 65).trans a5
  have k66 := (blk_cell hk 66).trans a6
  have k67 := (blk_cell hk 67).trans a7
  have HX := Lib.hid (And.intro hr32 (And.intro hbr (And.intro hsz (And.intro hone (And.intro hzs hkz)))))
  have HL := Lib.hid (And.intro (show (Tryd.prog.info? 24).map (·.size) = some P.length by rw [hl1]; exact (zero_of_info infoHash).2) (And.intro (show (Tryd.prog.info? 24).map (·.size) = some R.length by rw [hl2]; exact (zero_of_info infoHash).2) Tryd.underlying24))
  have HB := Lib.hid (below_alloc (below_alloc (Below.refl w.heap.size w) (.cells C 26)) (.cells Z 37))
  have HUR := Lib.hid Tryd.underlying37
  clear hbr hr32 hsz hone hzs hl1 hl2 a0 a5 a6 a7 hC hZ hP hR hk hkz hp hr
  go_enter Tryd.func12, Tryd.ntmps12
  go_wp2_with (first
    | ((with_reducible show wpList _ _ _ (Oper.mk _ (Op.load _ (.tmp 5)) _ _ _ _ :: _) _ _); (go_loud (refine wpList_load_mid rfl 24 (.tmp 5) rfl w.heap.size 1 rfl P _ HX.out.1.1 HL.out.2.2 rfl HL.out.1 ?_)))
    | ((with_reducible show wpList _ _ _ (Oper.mk _ (Op.load _ (.tmp 7)) _ _ _ _ :: _) _ _); (go_loud (refine wpList_load_mid rfl 24 (.tmp 7) rfl w.heap.size 33 rfl R _ HX.out.1.2 HL.out.2.2 rfl HL.out.2.1 ?_)))
    | ((with_reducible show wpList _ _ _ (Oper.mk _ (Op.build _ _) _ _ _ _ :: _) _ _); (go_loud (refine wpl_build rfl 37 _ rfl #[(0, .int .u32 v), (1, .agg P.toArray), (2, .agg R.toArray), (3, .int .u32 t), (4, .int .u32 b), (5, .int .u32 n)] (by simp [Act.eval]) C HX.out.2.1 ?_)))
    | ((with_reducible show wpList _ _ _ (Oper.mk _ (Op.store _ _ _) _ _ _ _ :: _) _ _); (go_loud (refine wpList_store_row rfl 37 (.tmp 2) (.tmp 15) rfl (w.heap.size + 1) C rfl rfl 37 Z HX.out.2.2.2.2.2 HX.out.2.2.1 HX.out.2.2.2.2.1 HX.out.2.2.2.1 ?_))))
  exact bodyPost_ret (results_cell_row rfl _ _ (w.heap.size + 1) 37 C (0, 0) _ rfl (setRow_heap _ _ _ _ _ _ HX.out.2.2.2.2.2) HUR.out rfl HX.out.2.2.1) rfl ⟨rfl, below_setRow HB.out (by omega) _⟩
end Go.Proofs.YtefnpecncacepaaDoor.Hand

/- The document's bytes of a header: walked. -/
namespace Go.Proofs.YtefnpecncacepaaDoor.Hand
open Go Go.RowKit Go.Proofs.YtefnpecncacepaaDoor.Plain Go.Proofs.YtefnpecncacepaaDoor.PAll Go.Proofs.YtefnpecncacepaaDoorW.PrintWords Go.Proofs.YtefnpecncacepaaDoorW.PrintLast Go.Proofs.YtefnpecncacepaaDoorW.PrintMore
set_option linter.unusedVariables false
set_option linter.unusedSimpArgs false
set_option maxRecDepth 100000
attribute [local go_sem ↓] Go.wp_at_zero Go.wp_at_succ
theorem rnum4_calls (v : Int) (h0 : 0 ≤ v) (h1 : v < 4294967296) (W : World) : Calls Tryd.prog 27 #[.int .u64 v, .int .i64 4] W fun e w' => e = .returned (.string (strOfNums (digs 4 v.toNat))) ∧ Below W.heap.size W w' := by
  have h := rnum_tells v.toNat 4 (by omega) 20 (by omega)
  rw [wid4h, Int.toNat_of_nonneg h0] at h
  exact mastheadref06_Num.calls 20 v 4 _ W h
set_option maxHeartbeats 2000000 in
theorem rbytes_calls (v : Int) (p r : List Int) (t b n : Int) (w : World) (hp : p.length = 32) (hr : r.length = 32) (hv0 : 0 ≤ v) (hv1 : v < 4294967296) (ht0 : 0 ≤ t) (ht1 : t < 4294967296) (hb0 : 0 ≤ b) (hb1 : b < 4294967296) (hn0 : 0 ≤ n) (hn1 : n < 4294967296) :
    Calls Tryd.prog 11 #[hV v p r t b n] w fun e w' => e = .returned (.string (strOfNums (headB v p r t b n))) ∧ Below w.heap.size w w' := by
  have HV := Lib.hid (fun W => rnum4_calls v hv0 hv1 W)
  have HT := Lib.hid (fun W => rnum4_calls t ht0 ht1 W)
  have HB := Lib.hid (fun W => rnum4_calls b hb0 hb1 W)
  have HN := Lib.hid (fun W => rnum4_calls n hn0 hn1 W)
  have he : ((((strOfNums (digs 4 v.toNat) ++ strOfNums p) ++ strOfNums r) ++ strOfNums (digs 4 t.toNat)) ++ strOfNums (digs 4 b.toNat)) ++ strOfNums (digs 4 n.toNat) = strOfNums (headB v p r t b n) := by
    simp only [headB, str_append, ByteArray.append_assoc]
  have sv : (strOfNums (digs 4 v.toNat)).size = 4 := by rw [strOfNums_size, digs_length]
  have st : (strOfNums (digs 4 t.toNat)).size = 4 := by rw [strOfNums_size, digs_length]
  have sb : (strOfNums (digs 4 b.toNat)).size = 4 := by rw [strOfNums_size, digs_length]
  have sn : (strOfNums (digs 4 n.toNat)).size = 4 := by rw [strOfNums_size, digs_length]
  have sp : (strOfNums p).size = 32 := by rw [strOfNums_size, hp]
  have sr : (strOfNums r).size = 32 := by rw [strOfNums_size, hr]
  have wv : v % 18446744073709551616 = v := by omega
  have wt : t % 18446744073709551616 = t := by omega
  have wb : b % 18446744073709551616 = b := by omega
  have wn : n % 18446744073709551616 = n := by omega
  have wv' : IntKind.u64.wrap v = v := u64w_id (by omega) (by omega)
  have wt' : IntKind.u64.wrap t = t := u64w_id (by omega) (by omega)
  have wb' : IntKind.u64.wrap b = b := u64w_id (by omega) (by omega)
  have wn' : IntKind.u64.wrap n = n := u64w_id (by omega) (by omega)
  have hS : ∀ u : World, Below (w.heap.size + 1) (w.alloc (.cells (hcells v p r t b n).toArray 37)) u →
      (u.cell? ⟨w.heap.size, 0, none⟩ = some (.int .u32 v) ∧ (convert 28 9 (.slice (some ⟨w.heap.size, 1, none⟩) 32 32)).run Tryd.prog u = .ok (.string (strOfNums p)) u ∧ (convert 28 9 (.slice (some ⟨w.heap.size, 33, none⟩) 32 32)).run Tryd.prog u = .ok (.string (strOfNums r)) u) ∧ (u.cell? ⟨w.heap.size, 65, none⟩ = some (.int .u32 t) ∧ u.cell? ⟨w.heap.size, 66, none⟩ = some (.int .u32 b) ∧ u.cell? ⟨w.heap.size, 67, none⟩ = some (.int .u32 n)) := fun u hu => by
    have h := (hu.block w.heap.size (by omega)).trans (heap_alloc_new w (.cells (hcells v p r t b n).toArray 37))
    obtain ⟨a5, a6, a7⟩ := hcells_at v p r t b n hp hr
    have c1 := C_of_block (pre := [.int .u32 v]) (post := nums .u8 r ++ [.int .u32 t, .int .u32 b, .int .u32 n]) (k := .u8) (ys := p) (o := 1) (w := u) (b := w.heap.size) (t := 37) (fr := (0, 0)) (by rw [h]; rfl) rfl (by omega)
    have c2 := C_of_block (pre := .int .u32 v :: nums .u8 p) (post := [.int .u32 t, .int .u32 b, .int .u32 n]) (k := .u8) (ys := r) (o := 33) (w := u) (b := w.heap.size) (t := 37) (fr := (0, 0)) (by rw [h]; rfl) (by simp [nums, hp]) (by omega)
    have d1 := Kd.C_string (P := Tryd.prog) (src := 28) (dst := 9) (c := 32) Tryd.underlying28 Tryd.underlying5 Tryd.underlying9 c1
    have d2 := Kd.C_string (P := Tryd.prog) (src := 28) (dst := 9) (c := 32) Tryd.underlying28 Tryd.underlying5 Tryd.underlying9 c2
    rw [hp] at d1
    rw [hr] at d2
    exact ⟨⟨(blk_cell h 0).trans rfl, d1, d2⟩, (blk_cell h 65).trans a5, (blk_cell h 66).trans a6, (blk_cell h 67).trans a7⟩
  unfold hV
  obtain ⟨C, hC⟩ : ∃ C, (hcells v p r t b n).toArray = C := ⟨_, rfl⟩
  rw [hC] at hS ⊢
  obtain ⟨sV, e1⟩ : ∃ C, strOfNums (digs 4 v.toNat) = C := ⟨_, rfl⟩
  obtain ⟨sT, e2⟩ : ∃ C, strOfNums (digs 4 t.toNat) = C := ⟨_, rfl⟩
  obtain ⟨sB, e3⟩ : ∃ C, strOfNums (digs 4 b.toNat) = C := ⟨_, rfl⟩
  obtain ⟨sN, e4⟩ : ∃ C, strOfNums (digs 4 n.toNat) = C := ⟨_, rfl⟩
  obtain ⟨sP, e5⟩ : ∃ C, strOfNums p = C := ⟨_, rfl⟩
  obtain ⟨sR, e6⟩ : ∃ C, strOfNums r = C := ⟨_, rfl⟩
  obtain ⟨sH, e7⟩ : ∃ C, strOfNums (headB v p r t b n) = C := ⟨_, rfl⟩
  rw [e1] at HV sv he
  rw [e2] at HT st he
  rw [e3] at HB sb he
  rw [e4] at HN sn he
  rw [e5] at sp he hS
  rw [e6] at sr he hS
  rw [e7] at he ⊢
  have HE := Lib.hid he
  have HSS := Lib.hid hS
  have HB1 := Lib.hid (below_alloc (Below.refl w.heap.size w) (.cells C 37))
  have HZ := Lib.hid (show (w.alloc (.cells C 37)).heap.size = w.heap.size + 1 by simp)
  have HB0 := Lib.hid (below_drew (Below.refl (w.heap.size + 1) (w.alloc (.cells C 37))))
  obtain ⟨W1, hW1⟩ : ∃ W, w.alloc (.cells C 37) = W := ⟨_, rfl⟩
  rw [hW1] at HSS HB1 HB0 HZ
  have HW1 := Lib.hid hW1
  have HTR := Lib.hid (show ∀ u u' : World, Below (w.heap.size + 1) W1 u → Below u.heap.size u u' → Below (w.heap.size + 1) W1 u' from fun u u' hu hu' => hu.trans (Below.mono hu' (by have h7 := hu.size; have h8 := HZ.out; omega)))
  clear hp hr hv0 hv1 ht0 ht1 hb0 hb1 hn0 hn1 he hS hC e1 e2 e3 e4 e5 e6 e7 hW1
  go_enter Tryd.func11, Tryd.ntmps11
  go_wp2_with fail
  rw [HW1.out]
  go_region_held3 (fun u => u.cell? ⟨w.heap.size, 0, none⟩ = some (.int .u32 v) ∧ (convert 28 9 (.slice (some ⟨w.heap.size, 1, none⟩) 32 32)).run Tryd.prog u = .ok (.string sP) u ∧ (convert 28 9 (.slice (some ⟨w.heap.size, 33, none⟩) 32 32)).run Tryd.prog u = .ok (.string sR) u) (first | exact (HSS.out _ HB3.out).1 | exact (HSS.out _ HB0.out).1)
    (first | (go_at_call 27; (with_reducible refine (HV.out _).mono ?_); rintro e w3 ⟨rfl, hb3⟩; have HB3 := Lib.hid (HTR.out _ _ HB0.out hb3); clear hb3))
  all_goals
    have HD3 := Lib.hid (below_drew HB3.out)
    go_wp2_with fail
    go_region_held3 (fun u => u.cell? ⟨w.heap.size, 65, none⟩ = some (.int .u32 t) ∧ u.cell? ⟨w.heap.size, 66, none⟩ = some (.int .u32 b) ∧ u.cell? ⟨w.heap.size, 67, none⟩ = some (.int .u32 n)) (first | exact (HSS.out _ HB6.out).2 | exact (HSS.out _ HB5.out).2 | exact (HSS.out _ HB4.out).2 | exact (HSS.out _ HD3.out).2)
      (first
        | (go_at_call 27; (with_reducible refine (HT.out _).mono ?_); rintro e w4 ⟨rfl, hb4⟩; have HB4 := Lib.hid (HTR.out _ _ HD3.out hb4); clear hb4)
        | (go_at_call 27; (with_reducible refine (HB.out _).mono ?_); rintro e w5 ⟨rfl, hb5⟩; have HB5 := Lib.hid (HTR.out _ _ HB4.out hb5); clear hb5)
        | (go_at_call 27; (with_reducible refine (HN.out _).mono ?_); rintro e w6 ⟨rfl, hb6⟩; have HB6 := Lib.hid (HTR.out _ _ HB5.out hb6); clear hb6))
    all_goals
      go_wp2
      go_ret
      exact ⟨by rw [HE.out]; rfl, HB1.out.trans (Below.mono HB6.out (by omega))⟩
end Go.Proofs.YtefnpecncacepaaDoor.Hand

/- The document's hash of a header: walked. -/
namespace Go.Proofs.YtefnpecncacepaaDoor.Hand
open Go Go.RowKit Go.Proofs.YtefnpecncacepaaDoor.Plain Go.Proofs.YtefnpecncacepaaDoor.PAll Go.Proofs.YtefnpecncacepaaDoorW.PrintWords Go.Proofs.YtefnpecncacepaaDoorW.PrintLast Go.Proofs.YtefnpecncacepaaDoorW.PrintMore
set_option linter.unusedVariables false
set_option linter.unusedSimpArgs false
set_option maxRecDepth 100000
theorem infoA32 : (Tryd.prog.info? 23).map (fun i => (i.zero, i.size)) = some (some (.agg (nums .u8 (List.replicate 32 0)).toArray), 32) := by kernel_rfl
set_option maxHeartbeats 1000000 in
theorem rhash_calls (v : Int) (p r : List Int) (t b n : Int) (w : World) (hp : p.length = 32) (hr : r.length = 32) (hv0 : 0 ≤ v) (hv1 : v < 4294967296) (ht0 : 0 ≤ t) (ht1 : t < 4294967296) (hb0 : 0 ≤ b) (hb1 : b < 4294967296) (hn0 : 0 ≤ n) (hn1 : n < 4294967296)
    (bp : ∀ x ∈ p, 0 ≤ x ∧ x < 256) (br : ∀ x ∈ r, 0 ≤ x ∧ x < 256) :
    Calls Tryd.prog 13 #[hV v p r t b n] w fun e w' => e = .returned (.agg (nums .u8 (twiceP (headB v p r t b n))).toArray) ∧ Below w.heap.size w w' := by
  have HRB := Lib.hid (fun W => rbytes_calls v p r t b n W hp hr hv0 hv1 ht0 ht1 hb0 hb1 hn0 hn1)
  have HRT := Lib.hid (fun W => rtwice_calls (headB v p r t b n) W (by rw [headB_len _ _ _ _ _ _ hp hr]; decide) (headB_bytes v t b n bp br))
  have hci : (Tryd.prog.info? 37).map (·.size) = some (hcells v p r t b n).toArray.size := by
    rw [(zero_of_info infoR).2]
    simp [hcells_len v p r t b n hp hr]
  have hzr := (zero_of_info infoA32).1
  obtain ⟨Z0, hZ0⟩ : ∃ C, (nums .u8 (List.replicate 32 0)).toArray = C := ⟨_, rfl⟩
  rw [hZ0] at hzr
  obtain ⟨RA, hRA⟩ : ∃ R, (nums .u8 (twiceP (headB v p r t b n))).toArray = R := ⟨_, rfl⟩
  have hsl : (nums .u8 (twiceP (headB v p r t b n))).length = 32 := by simp [nums, twiceP, sumP_len]
  have HRS := Lib.hid (show (Tryd.prog.info? 23).map (·.size) = some RA.size ∧ Z0.size = RA.size ∧ RA.all (·.oneCell') = true by
    have h32 : RA.size = 32 := by rw [← hRA]; exact hsl
    refine ⟨by rw [h32]; exact (zero_of_info infoA32).2, by rw [h32, ← hZ0]; rfl, by rw [← hRA]; exact all_oneCell_toArray (nums_one _ _)⟩)
  obtain ⟨sH, hsH⟩ : ∃ s, strOfNums (headB v p r t b n) = s := ⟨_, rfl⟩
  rw [hsH] at HRB HRT
  rw [hRA] at HRT ⊢
  unfold hV at HRB ⊢
  obtain ⟨C, hC⟩ : ∃ C, (hcells v p r t b n).toArray = C := ⟨_, rfl⟩
  rw [hC] at HRB hci ⊢
  have HC1 := Lib.hid (heap_alloc2_old w (.cells C 37) (.cells Z0 23))
  have HZ1 := Lib.hid (heap_alloc2_new w (.cells C 37) (.cells Z0 23))
  have HB1 := Lib.hid (below_alloc (below_alloc (Below.refl w.heap.size w) (.cells C 37)) (.cells Z0 23))
  have HCI := Lib.hid (And.intro hci Tryd.underlying37)
  have HU := Lib.hid Tryd.underlying23
  clear hp hr hv0 hv1 ht0 ht1 hb0 hb1 hn0 hn1 bp br hci hZ0 hsl hRA hsH hC
  go_enter Tryd.func13, Tryd.ntmps13
  go_wp2_with ((with_reducible show wpList _ _ _ (Oper.mk _ (Op.load _ _) _ _ _ _ :: _) _ _); (go_loud (refine wpList_load_row rfl 37 (.tmp 1) rfl w.heap.size rfl 37 C (0, 0) _ HC1.out HCI.out.2 rfl HCI.out.1 ?_)))
  refine (HRB.out _).mono ?_
  rintro e w1 ⟨rfl, hb1⟩
  have HZ2 := Lib.hid ((hb1.block _ (blk_lt HZ1.out)).trans HZ1.out)
  have HB2 := Lib.hid (HB1.out.trans (Below.mono hb1 HB1.out.size))
  clear hb1
  go_wp2_with fail
  refine (HRT.out _).mono ?_
  rintro e w2 ⟨rfl, hb2⟩
  have HZ3 := Lib.hid ((hb2.block _ (blk_lt HZ2.out)).trans HZ2.out)
  have HB3 := Lib.hid (HB2.out.trans (Below.mono hb2 HB2.out.size))
  clear hb2
  go_wp2_with ((with_reducible show wpList _ _ _ (Oper.mk _ (Op.store _ _ _) _ _ _ _ :: _) _ _); (go_loud (refine wpList_store_row rfl 23 (.tmp 2) (.tmp 5) rfl (w.heap.size + 1) RA rfl rfl 23 Z0 HZ3.out HRS.out.1 HRS.out.2.1 HRS.out.2.2 ?_)))
  exact bodyPost_ret (results_cell_row rfl _ _ (w.heap.size + 1) 23 RA (0, 0) _ rfl (setRow_heap _ _ _ _ _ _ HZ3.out) HU.out rfl HRS.out.1) rfl ⟨rfl, below_setRow HB3.out (by omega) _⟩
end Go.Proofs.YtefnpecncacepaaDoor.Hand

/- The law HeaderBytes: its walk. -/
namespace Go.Proofs.YtefnpecncacepaaDoor.Hand
open Go Go.RowKit Go.Proofs.YtefnpecncacepaaDoor.Plain Go.Proofs.YtefnpecncacepaaDoor.PAll Go.Proofs.YtefnpecncacepaaDoorW.PrintWords Go.Proofs.YtefnpecncacepaaDoorW.PrintLast Go.Proofs.YtefnpecncacepaaDoorW.PrintMore
set_option linter.unusedVariables false
set_option linter.unusedSimpArgs false
set_option maxRecDepth 100000
attribute [local go_sem ↓] Go.wp_at_zero Go.wp_at_succ
attribute [-go_sem] loadVar
/-- Parsed of its bytes. -/
theorem hparse_back {v : Int} {p r : List Int} {t b n : Int} (h : HWf v p r t b n) (A : Option Addr) (c : Nat) (W : World) (hr : Kd.C (Kd.int .u8) W A (headB v p r t b n).length (headB v p r t b n)) (hc : (headB v p r t b n).length ≤ c) :
    Calls Tryd.prog 10 #[.slice A 80 c] W fun e w' => e = .returned (.tuple #[.agg (hcells v p r t b n).toArray, .int .i64 0]) ∧ Below W.heap.size W w' := by
  have hl := headB_len v p r t b n h.1 h.2.1
  have hh := hparse_calls A c (headB v p r t b n) W hr hc (headB_bytes v t b n h.2.2.2.2.2.2.1 h.2.2.2.2.2.2.2) (by rw [hl]; decide)
  obtain ⟨k0, k1, k2, k3, k4, k5, k6⟩ := head_back h
  rw [if_pos k0, k0, k1, k2, k3, k4, k5, k6, hl] at hh
  exact hh
set_option maxHeartbeats 4000000 in
theorem bytesl_calls (v : Int) (p r : List Int) (t b n : Int) (w : World) (h1 : HWf v p r t b n) (hK : KT w) :
    Calls Tryd.prog 4 #[hV v p r t b n] w fun e w' => e = .returned (.bool true) ∧ Below w.heap.size w w' := by
  have q0 := fun W => heads_eq v p r t b n v p r t b n h1.1 h1.2.1 h1.1 h1.2.1 W
  simp only [beq_self_eq_true, Bool.and_self] at q0
  have hz1 : (Tryd.prog.info? 26).map (·.size) = some (hcells v p r t b n).toArray.size := by
    rw [(zero_of_info infoH).2]
    simp [hcells_len v p r t b n h1.1 h1.2.1]
  have hzz := (zero_of_info infoH).1
  have hzs : (hcells 0 z32 z32 0 0 0).toArray.size = (hcells v p r t b n).toArray.size := by
    simp [hcells_len v p r t b n h1.1 h1.2.1, hcells_len 0 z32 z32 0 0 0 (by simp [z32]) (by simp [z32])]
  have hone := hcells_one v p r t b n
  have HBC := Lib.hid (fun W => hbytes_calls v p r t b n W h1.1 h1.2.1 h1.2.2.1.1 h1.2.2.1.2 h1.2.2.2.1.1 h1.2.2.2.1.2 h1.2.2.2.2.1.1 h1.2.2.2.2.1.2 h1.2.2.2.2.2.1.1 h1.2.2.2.2.2.1.2)
  have HHS := Lib.hid (fun (W : World) (hW : KT W) => hhash_calls v p r t b n W h1.1 h1.2.1 h1.2.2.1.1 h1.2.2.1.2 h1.2.2.2.1.1 h1.2.2.2.1.2 h1.2.2.2.2.1.1 h1.2.2.2.2.1.2 h1.2.2.2.2.2.1.1 h1.2.2.2.2.2.1.2 h1.2.2.2.2.2.2.1 h1.2.2.2.2.2.2.2 hW)
  have HRF := Lib.hid (fun W => lref_calls v p r t b n W h1.1 h1.2.1)
  have HRB := Lib.hid (fun W => rbytes_calls v p r t b n W h1.1 h1.2.1 h1.2.2.1.1 h1.2.2.1.2 h1.2.2.2.1.1 h1.2.2.2.1.2 h1.2.2.2.2.1.1 h1.2.2.2.2.1.2 h1.2.2.2.2.2.1.1 h1.2.2.2.2.2.1.2)
  have HRH := Lib.hid (fun W => rhash_calls v p r t b n W h1.1 h1.2.1 h1.2.2.1.1 h1.2.2.1.2 h1.2.2.2.1.1 h1.2.2.2.1.2 h1.2.2.2.2.1.1 h1.2.2.2.2.1.2 h1.2.2.2.2.2.1.1 h1.2.2.2.2.2.1.2 h1.2.2.2.2.2.2.1 h1.2.2.2.2.2.2.2)
  have HPA := Lib.hid (fun A c W => hparse_back h1 A c W)
  have q1 := eq32h (twiceP (headB v p r t b n)) (sumP_len _)
  have hbl := headB_len v p r t b n h1.1 h1.2.1
  obtain ⟨T1, hT1⟩ : ∃ T, strOfNums (headB v p r t b n) = T := ⟨_, rfl⟩
  rw [hT1] at HRB
  obtain ⟨R1, hR1⟩ : ∃ R, (nums .u8 (twiceP (headB v p r t b n))).toArray = R := ⟨_, rfl⟩
  rw [hR1] at HHS q1 HRH
  obtain ⟨HB, hHB⟩ : ∃ l, headB v p r t b n = l := ⟨_, rfl⟩
  rw [hHB] at HBC HPA hT1 hbl
  unfold hV at HHS HBC HRF HRB HRH ⊢
  obtain ⟨C, hC⟩ : ∃ C, (hcells v p r t b n).toArray = C := ⟨_, rfl⟩
  obtain ⟨Z, hZ⟩ : ∃ C, (hcells 0 z32 z32 0 0 0).toArray = C := ⟨_, rfl⟩
  rw [hZ] at hzz hzs
  rw [hC] at q0 HHS HBC HRF HRB HRH HPA hz1 hzs hone ⊢
  have HRG := Lib.hid HRF.out
  have HL := Lib.hid hbl
  have HT1 := Lib.hid hT1
  have HZ := Lib.hid (And.intro hz1 (And.intro hzs (And.intro hone Tryd.underlying26)))
  have HB1 := Lib.hid (below_alloc (Below.refl w.heap.size w) (.cells C 26))
  have HC1 := Lib.hid (heap_alloc_new w (.cells C 26))
  have HK := Lib.hid hK
  clear hz1 hzs hone hbl hT1 hR1 hHB hC hZ h1 hK
  go_enter Tryd.func4, Tryd.ntmps4
  go_wp2_with ((with_reducible show wpList _ _ _ (Oper.mk _ (Op.load _ (.tmp 1)) _ _ _ _ :: _) _ _); (go_loud (refine wpList_load_row rfl 26 (.tmp 1) rfl w.heap.size rfl 26 C (0, 0) _ HC1.out HZ.out.2.2.2 rfl HZ.out.1 ?_)))
  refine (HBC.out _).mono ?_
  rintro e w1 ⟨x, rfl, hx, hb1⟩
  obtain ⟨A2, c2, hv, hc2, hC2⟩ := Kd.R_reads hx
  rw [HL.out] at hv
  subst hv
  have HBW := Lib.hid (HB1.out.trans (Below.mono hb1 (by simp)))
  have HC2 := Lib.hid ((hb1.block _ (blk_lt HC1.out)).trans HC1.out)
  have HPC := Lib.hid (HPA.out A2 c2 w1 hC2 hc2)
  have HCV := Lib.hid (show ∀ u : World, Below w1.heap.size w1 u → (convert 28 9 (.slice A2 80 c2)).run Tryd.prog u = .ok (.string T1) u from fun u hu => by
    have h := Kd.C_string (P := Tryd.prog) (src := 28) (dst := 9) (c := c2) Tryd.underlying28 Tryd.underlying5 Tryd.underlying9 (Kd.C_below hC2 hu)
    rwa [HL.out, HT1.out] at h)
  clear hx hb1 hc2 hC2
  go_wp2_with fail
  refine HPC.out.mono ?_
  rintro e w2 ⟨rfl, hb2⟩
  have HBX := Lib.hid (HBW.out.trans (Below.mono hb2 HBW.out.size))
  have HC3 := Lib.hid ((hb2.block _ (blk_lt HC2.out)).trans HC2.out)
  have HB2 := Lib.hid hb2
  clear hb2
  go_wp2_with ((with_reducible show wpList _ _ _ (Oper.mk _ (Op.store _ _ _) _ _ _ _ :: _) _ _); (go_loud (refine wpl_store_new rfl 26 (.tmp 4) (.tmp 11) rfl Z C rfl rfl HZ.out.1 HZ.out.2.1 HZ.out.2.2.1 ?_)))
  have HC4 := Lib.hid (blk_alloc HC3.out (.cells C 26))
  have HN4 := Lib.hid (heap_alloc_new w2 (.cells C 26))
  have HB4 := Lib.hid (HBX.out.alloc HBX.out.size (.cells C 26))
  have HV4 := Lib.hid (HB2.out.alloc HB2.out.size (.cells C 26))
  have HZ4 := Lib.hid (show (w2.alloc (.cells C 26)).heap.size = w2.heap.size + 1 by simp)
  have HLT := Lib.hid (show w.heap.size < w2.heap.size ∧ w1.heap.size ≤ w2.heap.size from ⟨blk_lt HC3.out, HB2.out.size⟩)
  have HSS := Lib.hid (show ∀ u : World, Below (w2.heap.size + 1) (w2.alloc (.cells C 26)) u → (loadVar 26 ⟨w.heap.size, 0, none⟩).run Tryd.prog u = .ok (.agg C) u ∧ (loadVar 26 ⟨w2.heap.size, 0, none⟩).run Tryd.prog u = .ok (.agg C) u ∧ (convert 28 9 (.slice A2 80 c2)).run Tryd.prog u = .ok (.string T1) u from fun u hu => ⟨run_loadVar_row u w.heap.size _ _ C (0, 0) _ ((hu.block _ (by have := HLT.out.1; omega)).trans HC4.out) HZ.out.2.2.2 rfl HZ.out.1, run_loadVar_row u w2.heap.size _ _ C (0, 0) _ ((hu.block _ (by omega)).trans HN4.out) HZ.out.2.2.2 rfl HZ.out.1, HCV.out u (HV4.out.trans (Below.mono hu (by have := HLT.out.2; omega)))⟩)
  have HB0 := Lib.hid (below_drew (Below.refl (w2.heap.size + 1) (w2.alloc (.cells C 26))))
  obtain ⟨W3, hW3⟩ : ∃ W, w2.alloc (.cells C 26) = W := ⟨_, rfl⟩
  rw [hW3] at HSS HB0 HZ4 HB4 ⊢
  have HTR := Lib.hid (show ∀ u u' : World, Below (w2.heap.size + 1) W3 u → Below u.heap.size u u' → Below (w2.heap.size + 1) W3 u' from fun u u' hu hu' => hu.trans (Below.mono hu' (by have h7 := hu.size; have h8 := HZ4.out; omega)))
  have HKT := Lib.hid (show ∀ u : World, Below (w2.heap.size + 1) W3 u → KT u from fun u hu => HK.out.below (HB4.out.trans (Below.mono hu (by have := HLT.out.1; omega))) (Nat.le_refl _))
  clear HC4 HN4 HV4 HCV HPC HC3 HC2 HC1 hzz hW3
  go_region_held3 (fun u => (loadVar 26 ⟨w.heap.size, 0, none⟩).run Tryd.prog u = .ok (.agg C) u ∧ (loadVar 26 ⟨w2.heap.size, 0, none⟩).run Tryd.prog u = .ok (.agg C) u ∧ (convert 28 9 (.slice A2 80 c2)).run Tryd.prog u = .ok (.string T1) u) (first | exact HSS.out _ HB9.out | exact HSS.out _ HB8.out | exact HSS.out _ HB7.out | exact HSS.out _ HB6.out | exact HSS.out _ HB5.out | exact HSS.out _ HB3.out | exact HSS.out _ HB0.out)
    (first
      | (go_at_call 12; (with_reducible refine (HRF.out _).mono ?_); rintro e w3 ⟨rfl, hb3⟩; have HB3 := Lib.hid (HTR.out _ _ HB0.out hb3); clear hb3 HRF)
      | (go_at_call 11; (with_reducible refine (HRB.out _).mono ?_); rintro e w5 ⟨rfl, hb5⟩; have HB5 := Lib.hid (HTR.out _ _ HB3.out hb5); clear hb5)
      | (go_at_call 7; (with_reducible refine (HHS.out _ (HKT.out _ HB5.out)).mono ?_); rintro e w6 ⟨rfl, hb6⟩; have HB6 := Lib.hid (HTR.out _ _ HB5.out hb6); clear hb6)
      | (go_at_call 12; (with_reducible refine (HRG.out _).mono ?_); rintro e w7 ⟨rfl, hb7⟩; have HB7 := Lib.hid (HTR.out _ _ HB6.out hb7); clear hb7)
      | (go_at_call 13; (with_reducible refine (HRH.out _).mono ?_); rintro e w8 ⟨rfl, hb8⟩; have HB8 := Lib.hid (HTR.out _ _ HB7.out hb8); clear hb8)
      | (go_at_call 9; (with_reducible refine (awake7_calls _).mono ?_); rintro e w9 ⟨rfl, hb9⟩; have HB9 := Lib.hid (HTR.out _ _ HB8.out hb9); clear hb9))
  all_goals
    clear q0 q1
    go_wp2
    go_ret
    exact ⟨rfl, HB4.out.trans (Below.mono HB9.out (by have := HLT.out.1; omega))⟩
end Go.Proofs.YtefnpecncacepaaDoor.Hand
