/- Several texts in one. -/
import Derived.Test.YtfcmdhimlfoofaaProg
import Derived.Below
import Derived.Deep.Draws
import Derived.Deep.AppendLies
import Derived.Maps.AppendAt
import Derived.OwnWalk
import Derived.Laws.BytesArg
import Derived.Laws.MakeOwn
import Derived.Laws.OwnMore
import Derived.Deep.OwnRows
import Derived.Tactics
import Derived.Lib.ConvBytes
import Derived.Laws.Slices
import Derived.WalkKit
import Derived.KernelRfl
import Derived.RowKit3
import Derived.Deep.LoopGhost
import Derived.Deep.QuietTactic
import Derived.BigQuiet
import Derived.WideLaws
import Derived.Deep.DeepCutAuto
import Derived.Deep.CutBlock
import Derived.Deep.RegionHeld3
import Derived.Laws.Rows
import Derived.Lib.AppendStr
import Derived.ArgAppend
import Derived.Laws.IdiomCopy
import Derived.OrdersHeld
import Derived.Laws.BitsLemmas
import Derived.RowKit
import Derived.StillTailTactics
import Derived.Test.YtfcmdhimlfoofaaWWords
import Derived.Test.YtfcmdhimlfoofaaWLast
import Derived.Test.YtfcmdhimlfoofaaWMore
import Derived.Lib.Hide
import Derived.LaidEql
import Derived.Outline
import Derived.Deep.MidRow
import Derived.Deep.WholeRow
import Derived.Deep.DrawnRows
import Derived.Test.YtfcmdhimlfoofaaMBY
import Derived.Test.YtfcmdhimlfoofaaParse
import Derived.Test.YtfcmdhimlfoofaaMBB
/- The law's Ref: a message in the document's form: walked. -/
namespace Go.Proofs.Ytfcmdhimlfoofaa.Hand
open Go Go.RowKit Go.Proofs.Ytfcmdhimlfoofaa.Plain Go.Proofs.Ytfcmdhimlfoofaa.PAll Go.Proofs.YtfcmdhimlfoofaaW.PrintWords Go.Proofs.YtfcmdhimlfoofaaW.PrintLast Go.Proofs.YtfcmdhimlfoofaaW.PrintMore
set_option linter.unusedVariables false
set_option linter.unusedSimpArgs false
set_option maxRecDepth 100000
attribute [local go_sem ↓] Go.wp_at_zero Go.wp_at_succ
attribute [-go_sem] Instr.buildSlice
/-- The document's message, its rows as values. -/
def ocells (lv hv ev : Value) (m : MT) : List Value := .int .i64 m.kind :: lv :: (nums .u8 m.stop ++ (hv :: (nums .u8 m.block ++ [.string (strOfNums m.item), .string (strOfNums m.data), ev, .int .u64 m.nonce, .int .i64 m.of_, .int .i64 m.code])))
theorem rcells_o (a : RA) (m : MT) : rcells a m = ocells (.slice a.la m.loc.length a.lc) (.slice a.ha m.heads.length a.hc) (.slice a.ea m.ents.length a.ec) m := rfl
theorem ocells_at (lv hv ev : Value) (m : MT) (hs : m.stop.length = 32) (hb : m.block.length = 32) : (ocells lv hv ev m).toArray[1]? = some lv ∧ (ocells lv hv ev m).toArray[34]? = some hv ∧ (ocells lv hv ev m).toArray[69]? = some ev := by
  obtain ⟨kind, loc, stop, heads, block, item, data, ents, nonce, of_, code⟩ := m
  simp only at hs hb
  obtain ⟨x0, x1, x2, x3, x4, x5, x6, x7, x8, x9, x10, x11, x12, x13, x14, x15, x16, x17, x18, x19, x20, x21, x22, x23, x24, x25, x26, x27, x28, x29, x30, x31, rfl⟩ := list32 stop hs
  obtain ⟨y0, y1, y2, y3, y4, y5, y6, y7, y8, y9, y10, y11, y12, y13, y14, y15, y16, y17, y18, y19, y20, y21, y22, y23, y24, y25, y26, y27, y28, y29, y30, y31, rfl⟩ := list32 block hb
  exact ⟨rfl, rfl, rfl⟩
theorem ocells_set (lv hv ev : Value) (m : MT) (hs : m.stop.length = 32) (hb : m.block.length = 32) (v : Value) : (ocells lv hv ev m).toArray.setIfInBounds 1 v = (ocells v hv ev m).toArray ∧ (ocells lv hv ev m).toArray.setIfInBounds 34 v = (ocells lv v ev m).toArray ∧ (ocells lv hv ev m).toArray.setIfInBounds 69 v = (ocells lv hv v m).toArray := by
  obtain ⟨kind, loc, stop, heads, block, item, data, ents, nonce, of_, code⟩ := m
  simp only at hs hb
  obtain ⟨x0, x1, x2, x3, x4, x5, x6, x7, x8, x9, x10, x11, x12, x13, x14, x15, x16, x17, x18, x19, x20, x21, x22, x23, x24, x25, x26, x27, x28, x29, x30, x31, rfl⟩ := list32 stop hs
  obtain ⟨y0, y1, y2, y3, y4, y5, y6, y7, y8, y9, y10, y11, y12, y13, y14, y15, y16, y17, y18, y19, y20, y21, y22, y23, y24, y25, y26, y27, y28, y29, y30, y31, rfl⟩ := list32 block hb
  exact ⟨rfl, rfl, rfl⟩
theorem ocells_len (lv hv ev : Value) (m : MT) (hs : m.stop.length = 32) (hb : m.block.length = 32) : (ocells lv hv ev m).length = 73 := by
  simp [ocells, nums, hs, hb]
theorem built_rm (m : MT) (hs : m.stop.length = 32) (hb : m.block.length = 32) : Try.prog.built 44 [(0, .int .i64 m.kind), (2, .agg (nums .u8 m.stop).toArray), (4, .agg (nums .u8 m.block).toArray), (5, .string (strOfNums m.item)), (6, .string (strOfNums m.data)), (8, .int .u64 m.nonce), (9, .int .i64 m.of_), (10, .int .i64 m.code)] = some (ocells (.slice none 0 0) (.slice none 0 0) (.slice none 0 0) m).toArray := by
  obtain ⟨kind, loc, stop, heads, block, item, data, ents, nonce, of_, code⟩ := m
  simp only at hs hb
  obtain ⟨x0, x1, x2, x3, x4, x5, x6, x7, x8, x9, x10, x11, x12, x13, x14, x15, x16, x17, x18, x19, x20, x21, x22, x23, x24, x25, x26, x27, x28, x29, x30, x31, rfl⟩ := list32 stop hs
  obtain ⟨y0, y1, y2, y3, y4, y5, y6, y7, y8, y9, y10, y11, y12, y13, y14, y15, y16, y17, y18, y19, y20, y21, y22, y23, y24, y25, y26, y27, y28, y29, y30, y31, rfl⟩ := list32 block hb
  kernel_rfl
/-- What stands when i hashes, j headers, l entries have been taken over. -/
structure OSt (Z : Array Value) (b1 : Nat) (w wr : World) (b0 bo : Nat) (a : MA) (m : MT) (lv hv ev : Value) (i j l : Nat) : Prop where
  blk : wr.heap[bo]? = some (.cells (ocells lv hv ev m).toArray 44 (0, 0))
  rl : Kd.R kH 27 wr w.heap.size (fun _ => True) lv (m.loc.take i)
  rh : Kd.R kHd 72 wr w.heap.size (fun _ => True) hv (m.heads.take j)
  re : Kd.R kEr 77 wr w.heap.size (fun _ => True) ev (m.ents.take l)
  box : MBox wr b0 a m
  bel : Below w.heap.size w wr
  ge : w.heap.size ≤ bo
  zb : wr.heap[b1]? = some (.cells Z 44 (0, 0))
  nb : b1 ≠ bo
theorem OSt.below {w wr w1 : World} {Z : Array Value} {b1 b0 bo : Nat} {a : MA} {m : MT} {lv hv ev : Value} {i j l : Nat} (h : OSt Z b1 w wr b0 bo a m lv hv ev i j l) (hb : Below wr.heap.size wr w1) : OSt Z b1 w w1 b0 bo a m lv hv ev i j l :=
  ⟨(hb.block bo (blk_lt h.blk)).trans h.blk, Kd.R_below h.rl hb, Kd.R_below h.rh hb, Kd.R_below h.re hb, h.box.below hb, h.bel.trans (Below.mono hb h.bel.size), h.ge, (hb.block b1 (blk_lt h.zb)).trans h.zb, h.nb⟩
theorem MBox.grown {w w1 : World} {bx : Nat} {a : MA} {m : MT} (h : MBox w bx a m) {row : Option Nat} (hg : w.grownBy w1 row) (hne : some bx ≠ row) : MBox w1 bx a m := ⟨(hg.block bx (blk_lt h.blk) hne).trans h.blk, h.s32, h.b32⟩
theorem MBox.set {w : World} {bx g j : Nat} {a : MA} {m : MT} (h : MBox w bx a m) (hne : bx ≠ g) (v : Value) : MBox (w.setCell ⟨g, j, none⟩ v) bx a m := ⟨(Below.heap_setCell w ⟨g, j, none⟩ v bx hne).trans h.blk, h.s32, h.b32⟩
theorem OSt.ne {w wr : World} {Z : Array Value} {b1 b0 bo : Nat} {a : MA} {m : MT} {lv hv ev : Value} {i j l : Nat} (h : OSt Z b1 w wr b0 bo a m lv hv ev i j l) : b0 ≠ bo := fun e => by
  have h1 := h.box.blk
  rw [e, h.blk] at h1
  injection h1 with h1
  injection h1 with _ h1
  exact absurd h1 (by decide)
/-- Behind an append to the hashes: stored. -/
theorem OSt.pushL {w wr w1 : World} {Z : Array Value} {b1 b0 bo : Nat} {a : MA} {m : MT} {lv hv v1 : Value} {i j : Nat} (h : OSt Z b1 w wr b0 bo a m lv hv (.slice none 0 0) i j 0) (ho : Kd.R kH 27 w1 w.heap.size (fun _ => True) v1 (m.loc.take (i + 1))) (hb : Below w.heap.size w w1) (hg : wr.grownBy w1 lv.ownBlock) :
    ∃ A1 n1 c1, v1 = .slice A1 n1 c1 ∧ w1.frozen? ⟨bo, 1, none⟩ = false ∧ w1.cell? ⟨bo, 1, none⟩ = some lv ∧ OSt Z b1 w (w1.setCell ⟨bo, 1, none⟩ (.slice A1 n1 c1)) b0 bo a m (.slice A1 n1 c1) hv (.slice none 0 0) (i + 1) j 0 := by
  have hne := Kd.R_ne h.rl h.blk (by decide)
  have hne0 := Kd.R_ne h.rl h.box.blk (by decide)
  have hgb := (hg.block bo (blk_lt h.blk) hne).trans h.blk
  obtain ⟨A1, c1, rfl⟩ := Kd.R_slice ho
  have hb0 := h.ne
  have hs := ocells_set lv hv (.slice none 0 0) m h.box.s32 h.box.b32 (.slice A1 (m.loc.take (i + 1)).length c1)
  have hrh := Kd.R_over h.rh h.rl (by decide) hg
  refine ⟨A1, _, c1, rfl, blk_frozen hgb 1, (blk_cell hgb 1).trans (ocells_at lv hv _ m h.box.s32 h.box.b32).1, ⟨?_, ?_, ?_, Kd.R_nil _ _ _ _ _, (h.box.grown hg hne0).set h.ne _, hb.setCell (p := ⟨bo, 1, none⟩) h.ge _, h.ge, (Below.heap_setCell w1 ⟨bo, 1, none⟩ _ b1 h.nb).trans ((hg.block b1 (blk_lt h.zb) (Kd.R_ne h.rl h.zb (by decide))).trans h.zb), h.nb⟩⟩
  · rw [← hs.1]; exact blk_set hgb 1 _
  · exact Kd.R_set ho hgb (by decide) 1 _
  · exact Kd.R_set hrh hgb (by decide) 1 _
/-- Behind an append to the headers: stored. -/
theorem OSt.pushH {w wr w1 : World} {Z : Array Value} {b1 b0 bo : Nat} {a : MA} {m : MT} {lv hv v1 : Value} {i j : Nat} (h : OSt Z b1 w wr b0 bo a m lv hv (.slice none 0 0) i j 0) (ho : Kd.R kHd 72 w1 w.heap.size (fun _ => True) v1 (m.heads.take (j + 1))) (hb : Below w.heap.size w w1) (hg : wr.grownBy w1 hv.ownBlock) :
    ∃ A1 n1 c1, v1 = .slice A1 n1 c1 ∧ w1.frozen? ⟨bo, 34, none⟩ = false ∧ w1.cell? ⟨bo, 34, none⟩ = some hv ∧ OSt Z b1 w (w1.setCell ⟨bo, 34, none⟩ (.slice A1 n1 c1)) b0 bo a m lv (.slice A1 n1 c1) (.slice none 0 0) i (j + 1) 0 := by
  have hne := Kd.R_ne h.rh h.blk (by decide)
  have hne0 := Kd.R_ne h.rh h.box.blk (by decide)
  have hgb := (hg.block bo (blk_lt h.blk) hne).trans h.blk
  obtain ⟨A1, c1, rfl⟩ := Kd.R_slice ho
  have hs := ocells_set lv hv (.slice none 0 0) m h.box.s32 h.box.b32 (.slice A1 (m.heads.take (j + 1)).length c1)
  have hrl := Kd.R_over h.rl h.rh (by decide) hg
  refine ⟨A1, _, c1, rfl, blk_frozen hgb 34, (blk_cell hgb 34).trans (ocells_at lv hv _ m h.box.s32 h.box.b32).2.1, ⟨?_, ?_, ?_, Kd.R_nil _ _ _ _ _, (h.box.grown hg hne0).set h.ne _, hb.setCell (p := ⟨bo, 34, none⟩) h.ge _, h.ge, (Below.heap_setCell w1 ⟨bo, 34, none⟩ _ b1 h.nb).trans ((hg.block b1 (blk_lt h.zb) (Kd.R_ne h.rh h.zb (by decide))).trans h.zb), h.nb⟩⟩
  · rw [← hs.2.1]; exact blk_set hgb 34 _
  · exact Kd.R_set hrl hgb (by decide) 34 _
  · exact Kd.R_set ho hgb (by decide) 34 _
/-- Behind an append to the entries: stored. -/
theorem OSt.pushE {w wr w1 : World} {Z : Array Value} {b1 b0 bo : Nat} {a : MA} {m : MT} {lv hv ev v1 : Value} {i j l : Nat} (h : OSt Z b1 w wr b0 bo a m lv hv ev i j l) (ho : Kd.R kEr 77 w1 w.heap.size (fun _ => True) v1 (m.ents.take (l + 1))) (hb : Below w.heap.size w w1) (hg : wr.grownBy w1 ev.ownBlock) :
    ∃ A1 n1 c1, v1 = .slice A1 n1 c1 ∧ w1.frozen? ⟨bo, 69, none⟩ = false ∧ w1.cell? ⟨bo, 69, none⟩ = some ev ∧ OSt Z b1 w (w1.setCell ⟨bo, 69, none⟩ (.slice A1 n1 c1)) b0 bo a m lv hv (.slice A1 n1 c1) i j (l + 1) := by
  have hne := Kd.R_ne h.re h.blk (by decide)
  have hne0 := Kd.R_ne h.re h.box.blk (by decide)
  have hgb := (hg.block bo (blk_lt h.blk) hne).trans h.blk
  obtain ⟨A1, c1, rfl⟩ := Kd.R_slice ho
  have hs := ocells_set lv hv ev m h.box.s32 h.box.b32 (.slice A1 (m.ents.take (l + 1)).length c1)
  have hrl := Kd.R_over h.rl h.re (by decide) hg
  have hrh := Kd.R_over h.rh h.re (by decide) hg
  refine ⟨A1, _, c1, rfl, blk_frozen hgb 69, (blk_cell hgb 69).trans (ocells_at lv hv _ m h.box.s32 h.box.b32).2.2, ⟨?_, ?_, ?_, ?_, (h.box.grown hg hne0).set h.ne _, hb.setCell (p := ⟨bo, 69, none⟩) h.ge _, h.ge, (Below.heap_setCell w1 ⟨bo, 69, none⟩ _ b1 h.nb).trans ((hg.block b1 (blk_lt h.zb) (Kd.R_ne h.re h.zb (by decide))).trans h.zb), h.nb⟩⟩
  · rw [← hs.2.2]; exact blk_set hgb 69 _
  · exact Kd.R_set hrl hgb (by decide) 69 _
  · exact Kd.R_set hrh hgb (by decide) 69 _
  · exact Kd.R_set ho hgb (by decide) 69 _
theorem OSt.cells {w wr : World} {Z : Array Value} {b1 b0 bo : Nat} {a : MA} {m : MT} {lv hv ev : Value} {i j l : Nat} (h : OSt Z b1 w wr b0 bo a m lv hv ev i j l) : wr.cell? ⟨bo, 1, none⟩ = some lv ∧ wr.cell? ⟨bo, 34, none⟩ = some hv ∧ wr.cell? ⟨bo, 69, none⟩ = some ev := by
  obtain ⟨h1, h2, h3⟩ := ocells_at lv hv ev m h.box.s32 h.box.b32
  exact ⟨(blk_cell h.blk 1).trans h1, (blk_cell h.blk 34).trans h2, (blk_cell h.blk 69).trans h3⟩
theorem OSt.shapes {w wr : World} {Z : Array Value} {b1 b0 bo : Nat} {a : MA} {m : MT} {lv hv ev : Value} {i j l : Nat} (h : OSt Z b1 w wr b0 bo a m lv hv ev i j l) : (∃ A n c, lv = .slice A n c) ∧ (∃ A n c, hv = .slice A n c) ∧ (∃ A n c, ev = .slice A n c) := by
  obtain ⟨A, c, h1⟩ := Kd.R_slice h.rl
  obtain ⟨A2, c2, h2⟩ := Kd.R_slice h.rh
  obtain ⟨A3, c3, h3⟩ := Kd.R_slice h.re
  exact ⟨⟨A, _, c, h1⟩, ⟨A2, _, c2, h2⟩, ⟨A3, _, c3, h3⟩⟩
end Go.Proofs.Ytfcmdhimlfoofaa.Hand


/- The law's Ref: a message in the document's form: the walk. -/
namespace Go.Proofs.Ytfcmdhimlfoofaa.Hand
open Go Go.RowKit Go.Proofs.Ytfcmdhimlfoofaa.Plain Go.Proofs.Ytfcmdhimlfoofaa.PAll Go.Proofs.YtfcmdhimlfoofaaW.PrintWords Go.Proofs.YtfcmdhimlfoofaaW.PrintLast Go.Proofs.YtfcmdhimlfoofaaW.PrintMore
set_option linter.unusedVariables false
set_option linter.unusedSimpArgs false
set_option maxRecDepth 100000
attribute [local go_sem ↓] Go.wp_at_zero Go.wp_at_succ
attribute [-go_sem] Instr.buildSlice
theorem take_cast {k : Nat} {x : Int} (h : x = wrap64 ((k : Int) + 1)) (hk : k < 1000000) : x = ((k + 1 : Nat) : Int) := by
  rw [h, wrap64_id (by omega) (by omega)]
  omega
theorem ocells_one (lv hv ev : Value) (m : MT) (h1 : lv.oneCell' = true) (h2 : hv.oneCell' = true) (h3 : ev.oneCell' = true) : ∀ x ∈ ocells lv hv ev m, x.oneCell' = true := by
  intro x hx
  simp only [ocells, List.mem_cons, List.mem_append, List.not_mem_nil, or_false] at hx
  rcases hx with rfl | rfl | hx | rfl | hx | rfl | rfl | rfl | rfl | rfl | rfl
  · rfl
  · exact h1
  · exact nums_one _ _ _ hx
  · exact h2
  · exact nums_one _ _ _ hx
  · rfl
  · rfl
  · exact h3
  · rfl
  · rfl
  · rfl
theorem meas_m {n k : Nat} {x : Int} (h : k < n) (e : x = ((k + 1 : Nat) : Int)) : n + 1 - (intOf (Value.int .i64 x)).toNat < n + 1 - (intOf (Value.int .i64 (k : Int))).toNat := by
  subst e
  show n + 1 - ((k + 1 : Nat) : Int).toNat < n + 1 - ((k : Nat) : Int).toNat
  omega
theorem R_setRowT {α : Type} {d : Kd α} {e t g : Nat} {w : World} {base : Nat} {v : Value} {xs : List α} {cells cs : Array Value} (h : d.R e w base (fun _ => True) v xs) (hb : w.heap[g]? = some (.cells cells t (0, 0))) (ht : ∀ q, q ∈ e :: d.E → q ≠ t) : d.R e (w.setRow g cs) base (fun _ => True) v xs :=
  Kd.R_mono (Kd.R_step (Kd.R_types h hb ht) (fun k hk _ => setRow_other _ _ _ _ hk.2)) (fun _ _ => trivial)
/-- What is read of the document's message in the end. -/
theorem OSt.done {Z : Array Value} {b1 : Nat} {w wr : World} {b0 bo : Nat} {a : MA} {m : MT} {lv hv ev : Value} (h : OSt Z b1 w wr b0 bo a m lv hv ev m.loc.length m.heads.length m.ents.length) (cs : Array Value) : ∃ ra, ocells lv hv ev m = rcells ra m ∧ RC (wr.setRow b1 cs) ra m := by
  have r1 := R_setRowT (cs := cs) h.rl h.zb (by decide)
  have r2 := R_setRowT (cs := cs) h.rh h.zb (by decide)
  have r3 := R_setRowT (cs := cs) h.re h.zb (by decide)
  rw [List.take_length] at r1 r2 r3
  obtain ⟨A1, c1, rfl, l1, C1⟩ := Kd.R_reads r1
  obtain ⟨A2, c2, rfl, l2, C2⟩ := Kd.R_reads r2
  obtain ⟨A3, c3, rfl, l3, C3⟩ := Kd.R_reads r3
  exact ⟨⟨A1, c1, A2, c2, A3, c3⟩, rfl, C1, l1, C2, l2, C3, l3⟩
theorem infoHd3 : (Try.prog.info? 72).map (fun i => (i.zero, i.size, i.bytes)) = some (some (.agg (hcells 0 z32 z32 0 0 0).toArray), 68, 80) := by kernel_rfl
theorem infoE3 : (Try.prog.info? 77).map (fun i => (i.zero, i.size, i.bytes)) = some (some (.agg #[.string ⟨#[]⟩, .int .i64 0, .int .i64 0, .slice none 0 0]), 4, 56) := by kernel_rfl
theorem infoE4 : (Try.prog.info? 67).map (fun i => (i.zero, i.size)) = some (some (.agg #[.slice none 0 0, .int .i64 0, .int .i64 0, .slice none 0 0]), 4) := by kernel_rfl
theorem run_head1 (v : Int) (p r : List Int) (t b n : Int) (hp : p.length = 32) (hr : r.length = 32) (W : World) : (Instr.buildSlice 41 1 #[(0, .agg (hcells v p r t b n).toArray)]).run Try.prog W = .ok (.slice (some ⟨W.heap.size, 0, none⟩) 1 1) (W.alloc (.cells (hcells v p r t b n).toArray 72)) := by
  obtain ⟨x0, x1, x2, x3, x4, x5, x6, x7, x8, x9, x10, x11, x12, x13, x14, x15, x16, x17, x18, x19, x20, x21, x22, x23, x24, x25, x26, x27, x28, x29, x30, x31, rfl⟩ := list32 p hp
  obtain ⟨y0, y1, y2, y3, y4, y5, y6, y7, y8, y9, y10, y11, y12, y13, y14, y15, y16, y17, y18, y19, y20, y21, y22, y23, y24, y25, y26, y27, y28, y29, y30, y31, rfl⟩ := list32 r hr
  kernel_rfl
theorem run_ent1 (s : ByteArray) (cnt idx : Int) (A : Option Addr) (n c : Nat) (W : World) : (Instr.buildSlice 42 1 #[(0, .agg #[.string s, .int .i64 cnt, .int .i64 idx, .slice A n c])]).run Try.prog W = .ok (.slice (some ⟨W.heap.size, 0, none⟩) 1 1) (W.alloc (.cells #[.string s, .int .i64 cnt, .int .i64 idx, .slice A n c] 77)) := by
  kernel_rfl
theorem kHd_M {w : World} {base : Nat} {ok : Nat → Prop} {x : HT} (hp : x.p.length = 32) (hr : x.r.length = 32) : kHd.M w base ok x (hcT x) :=
  ⟨[.int .u32 x.v], _, rfl, rfl, nums .u8 x.p, _, rfl, kH_M hp, nums .u8 x.r, _, rfl, kH_M hr, [.int .u32 x.t], _, rfl, rfl, [.int .u32 x.b], _, rfl, rfl, rfl⟩
theorem kEr_M {w : World} {base : Nat} {ok : Nat → Prop} {x : ET} {v : Value} (h : Kd.R kH 27 w base ok v x.path) : kEr.M w base ok x [.string (strOfNums x.tx), .int .i64 x.cnt, .int .i64 x.idx, v] :=
  ⟨[.string (strOfNums x.tx)], _, rfl, rfl, [.int .i64 x.cnt], _, rfl, rfl, [.int .i64 x.idx], _, rfl, rfl, v, rfl, h⟩
theorem take_head {xs : List HT} {k : Nat} (h : k < xs.length) : xs.take (k + 1) = xs.take k ++ [rdHd xs k] := by
  rw [List.take_succ_eq_append_getElem h, rdHd_eq h]
set_option maxHeartbeats 8000000 in
theorem lrefm_calls (a : MA) (m : MT) (w : World) (hm : MC w a m) (hwf : MWf m) (hl1 : m.loc.length ≤ 100000) (hl2 : m.heads.length ≤ 100000) (hl3 : m.ents.length ≤ 100000) (hl4 : ∀ e ∈ m.ents, e.path.length ≤ 100000) :
    Calls Try.prog 14 #[mV a m] w fun e w' => ∃ ra, e = .returned (rmV ra m) ∧ RC w' ra m ∧ Below w.heap.size w w' := by
  have HM := Lib.hid hm
  have HWF := Lib.hid hwf
  have HL1 := Lib.hid hl1
  have HL2 := Lib.hid hl2
  have HL3 := Lib.hid hl3
  have HL4 := Lib.hid hl4
  have hz := (zero_of_info infoRM).1
  obtain ⟨Z, hZ⟩ : ∃ Z, (rcells nilRA zMT).toArray = Z := ⟨_, rfl⟩
  rw [hZ] at hz
  have hZS : Z.size = 73 := by rw [← hZ]; rfl
  have hs32 := hwf.stop.1
  have hb32 := hwf.block.1
  unfold mV
  have hA0 := heap_alloc2_old w (.cells (mcells a m).toArray 33) (.cells Z 44)
  have hZ0 := heap_alloc2_new w (.cells (mcells a m).toArray 33) (.cells Z 44)
  have HB0 := Lib.hid (below_alloc (below_alloc (Below.refl w.heap.size w) (.cells (mcells a m).toArray 33)) (.cells Z 44))
  obtain ⟨c0, c1, c34, c67, c68, c69, c70, c71, c72⟩ := mcells_at a m hs32 hb32
  have hbox : MBox ((w.alloc (.cells (mcells a m).toArray 33)).alloc (.cells Z 44)) w.heap.size a m := ⟨hA0, hs32, hb32⟩
  have HST := Lib.hid hbox.stop
  have HBL := Lib.hid hbox.block
  obtain ⟨C, hC⟩ : ∃ C, (mcells a m).toArray = C := ⟨_, rfl⟩
  rw [hC] at c0 c1 c34 c67 c68 c69 c70 c71 c72 hA0 hZ0 HB0 hbox HST HBL ⊢
  have HBOX := Lib.hid hbox
  have hcv1 : (convert 23 9 (.slice a.ia m.item.length a.ic)).run Try.prog ((w.alloc (.cells C 33)).alloc (.cells Z 44)) = .ok (.string (strOfNums m.item)) ((w.alloc (.cells C 33)).alloc (.cells Z 44)) :=
    Kd.C_string (P := Try.prog) (src := 23) (dst := 9) (c := a.ic) Try.underlying23 Try.underlying5 Try.underlying9 (Kd.C_below hm.item HB0.out)
  have hcv2 : (convert 23 9 (.slice a.da m.data.length a.dc)).run Try.prog ((w.alloc (.cells C 33)).alloc (.cells Z 44)) = .ok (.string (strOfNums m.data)) ((w.alloc (.cells C 33)).alloc (.cells Z 44)) :=
    Kd.C_string (P := Try.prog) (src := 23) (dst := 9) (c := a.dc) Try.underlying23 Try.underlying5 Try.underlying9 (Kd.C_below hm.data HB0.out)
  have HBU := Lib.hid (built_rm m hs32 hb32)
  have hol := ocells_len (.slice none 0 0) (.slice none 0 0) (.slice none 0 0) m hs32 hb32
  have hone := all_oneCell_toArray (ocells_one (.slice none 0 0) (.slice none 0 0) (.slice none 0 0) m rfl rfl rfl)
  have hi1 : (Try.prog.info? 28).map (·.size) = some (nums .u8 m.stop).length := by rw [infoHS]; simp [nums, hs32]
  have hi2 : (Try.prog.info? 28).map (·.size) = some (nums .u8 m.block).length := by rw [infoHS]; simp [nums, hb32]
  obtain ⟨O0, hO0⟩ : ∃ O, (ocells (.slice none 0 0) (.slice none 0 0) (.slice none 0 0) m).toArray = O := ⟨_, rfl⟩
  have hOS : O0.size = 73 := by rw [← hO0]; simpa using hol
  have HOI := Lib.hid (show (Try.prog.info? 44).map (·.size) = some O0.size by rw [hOS]; exact (zero_of_info infoRM).2)
  have HOZ := Lib.hid (show Z.size = O0.size by rw [hZS, hOS])
  rw [hO0] at hone HBU
  have HONE := Lib.hid hone
  obtain ⟨SL, hSL⟩ : ∃ A, nums .u8 m.stop = A := ⟨_, rfl⟩
  obtain ⟨BL, hBL⟩ : ∃ A, nums .u8 m.block = A := ⟨_, rfl⟩
  rw [hSL] at HST hi1 HBU
  rw [hBL] at HBL hi2 HBU
  have HI1 := Lib.hid hi1
  have HI2 := Lib.hid hi2
  obtain ⟨sI, hsI⟩ : ∃ Z, strOfNums m.item = Z := ⟨_, rfl⟩
  obtain ⟨sD, hsD⟩ : ∃ Z, strOfNums m.data = Z := ⟨_, rfl⟩
  obtain ⟨nI, hnI⟩ : ∃ Z, m.item.length = Z := ⟨_, rfl⟩
  obtain ⟨nD, hnD⟩ : ∃ Z, m.data.length = Z := ⟨_, rfl⟩
  rw [hsI] at hcv1 HBU
  rw [hsD] at hcv2 HBU
  rw [hnI] at hcv1 c67
  rw [hnD] at hcv2 c68
  have HU := Lib.hid Try.underlying28
  have HO0 := Lib.hid hO0
  have HZ0 := Lib.hid hZ0
  have HOZ2 := Lib.hid hZS
  obtain ⟨kind, hkind⟩ : ∃ x, m.kind = x := ⟨_, rfl⟩
  obtain ⟨nonce, hnonce⟩ : ∃ x, m.nonce = x := ⟨_, rfl⟩
  obtain ⟨of_, hof⟩ : ∃ x, m.of_ = x := ⟨_, rfl⟩
  obtain ⟨code, hcode⟩ : ∃ x, m.code = x := ⟨_, rfl⟩
  rw [hkind] at c0 HBU
  rw [hnonce] at c70 HBU
  rw [hof] at c71 HBU
  rw [hcode] at c72 HBU
  clear hm hwf hl1 hl2 hl3 hl4 hZ hZS hA0 hZ0 hbox hC hol hone hO0 hOS hSL hBL hi1 hi2 hsI hsD hnI hnD hs32 hb32 hkind hnonce hof hcode
  go_enter Try.func14, Try.ntmps14
  go_wp2_with (first
    | ((with_reducible show wpList _ _ _ (Oper.mk _ (Op.load 28 (.tmp 12)) _ _ _ _ :: _) _ _); (go_loud (refine wpList_load_mid rfl 28 (.tmp 12) rfl w.heap.size 2 rfl SL _ HST.out HU.out rfl HI1.out ?_)))
    | ((with_reducible show wpList _ _ _ (Oper.mk _ (Op.load 28 (.tmp 14)) _ _ _ _ :: _) _ _); (go_loud (refine wpList_load_mid rfl 28 (.tmp 14) rfl w.heap.size 35 rfl BL _ HBL.out HU.out rfl HI2.out ?_)))
    | ((with_reducible show wpList _ _ _ (Oper.mk _ (Op.build _ _) _ _ _ _ :: _) _ _); (go_loud (refine wpl_build rfl 44 _ rfl #[(0, .int .i64 kind), (2, .agg SL.toArray), (4, .agg BL.toArray), (5, .string sI), (6, .string sD), (8, .int .u64 nonce), (9, .int .i64 of_), (10, .int .i64 code)] (by simp [Act.eval]) O0 HBU.out ?_)))
    | ((with_reducible show wpList _ _ _ (Oper.mk _ (Op.store _ (.tmp 3) _) _ _ _ _ :: _) _ _); (go_loud (refine wpl_store_new rfl 44 (.tmp 3) (.tmp 28) rfl Z O0 (by simp [Act.eval, World.size_alloc]) rfl HOI.out HOZ.out HONE.out ?_))))
  obtain ⟨bo, hbo⟩ : ∃ b, w.heap.size + 1 + 1 = b := ⟨_, rfl⟩
  have HST0 := Lib.hid (show OSt Z (w.heap.size + 1) w (((w.alloc (.cells C 33)).alloc (.cells Z 44)).alloc (.cells O0 44)) w.heap.size bo a m (.slice none 0 0) (.slice none 0 0) (.slice none 0 0) 0 0 0 from
    ⟨by rw [HO0.out, ← hbo]; have := heap_alloc_new ((w.alloc (.cells C 33)).alloc (.cells Z 44)) (.cells O0 44); simpa using this, Kd.R_nil _ _ _ _ _, Kd.R_nil _ _ _ _ _, Kd.R_nil _ _ _ _ _, HBOX.out.below (below_alloc (Below.refl _ _) _), below_alloc HB0.out _, by omega, blk_alloc HZ0.out _, by omega⟩)
  rw [hbo]
  have HBO := Lib.hid hbo.symm
  have HL1E := Lib.hid HM.out.loc
  have HL2E := Lib.hid HM.out.heads
  have HL3E := Lib.hid HM.out.ents
  obtain ⟨n1, hn1⟩ : ∃ n, m.loc.length = n := ⟨_, rfl⟩
  obtain ⟨n2, hn2⟩ : ∃ n, m.heads.length = n := ⟨_, rfl⟩
  obtain ⟨n3, hn3⟩ : ∃ n, m.ents.length = n := ⟨_, rfl⟩
  have HN1 := Lib.hid hn1
  have HN2 := Lib.hid hn2
  have HN3 := Lib.hid hn3
  rw [hn1] at c1 HL1 HL1E ⊢
  rw [hn2] at c34 HL2 HL2E
  rw [hn3] at c69 HL3 HL3E
  have hzh := (zero_of_info infoHash).1
  obtain ⟨ZH, hZH⟩ : ∃ C, (nums .u8 (List.replicate 32 0)).toArray = C := ⟨_, rfl⟩
  rw [hZH] at hzh
  have HZH := Lib.hid (show ZH.size = 32 by rw [← hZH]; rfl)
  clear c0 c1 c34 c67 c68 c69 c70 c71 c72 hcv1 hcv2 hn1 hn2 hn3 hZH hbo HBOX HST HBL HBU HO0 HOZ HI1 HI2
  go_loopw [32] (fun i wr => ∃ k : Nat, k ≤ n1 ∧ i = .int .i64 (k : Int) ∧ Hid (∃ lv, OSt Z (w.heap.size + 1) w wr w.heap.size bo a m lv (.slice none 0 0) (.slice none 0 0) k 0 0)) (fun i _ => n1 + 1 - (intOf i).toNat)
  case atStart => exact ⟨0, Nat.zero_le _, rfl, Lib.hid ⟨_, HST0.out⟩⟩
  case round =>
    obtain ⟨k, hk, rfl, H⟩ := hrel
    obtain ⟨lv, hO⟩ := H.out
    by_cases hlt : k < n1
    · have b1 : decide ((k : Int) < (n1 : Int)) = true := decide_eq_true (by omega)
      have hklt : k < m.loc.length := by rw [HN1.out]; exact hlt
      obtain ⟨b, o, hla, hbl, hrg⟩ := C_hash (by have h := Kd.C_below HL1E.out hO.bel; rw [← HN1.out] at h; exact h) (by omega)
      obtain ⟨hr0, hs0⟩ := hrg k hklt
      have hbs := fun u => run_hash1r (rdH m.loc k) hs0 u
      have hPl : (nums .u8 (rdH m.loc k)).length = 32 := by rw [nums_len]; exact hs0
      have hone := nums_one .u8 (rdH m.loc k)
      have hcm := fun (u : World) => kH_M (w := u) (base := w.heap.size) (ok := fun _ => False) hs0
      obtain ⟨P, hP⟩ : ∃ P, nums .u8 (rdH m.loc k) = P := ⟨_, rfl⟩
      rw [hP] at hbs hPl hone hcm hr0
      have HF := Lib.hid (show (Try.prog.info? 28).map (·.size) = some P.length ∧ (Try.prog.info? 28).map (·.size) = some P.toArray.size ∧ ZH.size = P.toArray.size ∧ P.toArray.all (·.oneCell') = true from
        ⟨by rw [hPl]; exact (zero_of_info infoHash).2, by rw [List.size_toArray, hPl]; exact (zero_of_info infoHash).2, HZH.out.trans (by rw [List.size_toArray, hPl]), all_oneCell_toArray hone⟩)
      have HR0 := Lib.hid hr0
      have hOA := hO.below (below_alloc (Below.refl _ _) (.cells P.toArray 28))
      have HOA := Lib.hid hOA
      obtain ⟨x1, _, _⟩ := hOA.cells
      obtain ⟨⟨A1, m1, cc1, hlv⟩, _, _⟩ := hOA.shapes
      rw [hlv] at x1
      have HNK := Lib.hid (heap_alloc_new wr (.cells P.toArray 28))
      have HCM := Lib.hid hcm
      have HTL := Lib.hid (show ((m.loc.take k).length + 1) * 32 ≤ 140737488355328 by rw [List.length_take]; have := HL1.out; omega)
      have HTK := Lib.hid (take_hash hklt)
      have HLV := Lib.hid hlv
      have HRR := Lib.hid (show Kd.R kH 27 (wr.alloc (.cells P.toArray 28)) w.heap.size (fun _ => True) (.slice A1 m1 cc1) (m.loc.take k) by rw [← hlv]; exact hOA.rl)
      have HBB := Lib.hid hOA.bel
      have wk : wrap64 ((k : Int) + 1) = ((k + 1 : Nat) : Int) := take_cast rfl (by have := HL1.out; omega)
      have HLT := Lib.hid hlt
      have hla' : a.la = some ⟨b, o, none⟩ := hla
      clear hO hOA hrg hr0 hs0 hPl hone hcm hP hklt hbl H hk hlt hlv hla
      go_wp2_with (first
        | ((with_reducible show wpList _ _ _ (Oper.mk _ (Op.load _ (.tmp 34)) _ _ _ _ :: _) _ _); (go_loud (refine wpList_load_mid rfl 28 (.tmp 34) rfl b (o + k * 32) rfl P _ HR0.out HU.out rfl HF.out.1 ?_)))
        | ((with_reducible show wpList _ _ _ (Oper.mk _ (Op.load 28 (.tmp 5)) _ _ _ _ :: _) _ _); (go_loud (refine wpList_load_row rfl 28 (.tmp 5) rfl wr.heap.size rfl 28 P.toArray (0, 0) _ HNK.out HU.out rfl HF.out.2.1 ?_)))
        | ((with_reducible show wpList _ _ _ (Oper.mk _ (Op.store _ (.tmp 5) _) _ _ _ _ :: _) _ _); (go_loud (refine wpl_store_new rfl 28 (.tmp 5) (.tmp 35) rfl ZH P.toArray rfl rfl HF.out.2.1 HF.out.2.2.1 HF.out.2.2.2 ?_)))
        | ((with_reducible refine gate_builtin (b := .append) (xs := #[.tmp 37, .tmp 39]) rfl ?_); at_builtin; refine Kd.R_append kH (w0 := w) w.heap.size rfl (.tmp 37) (.tmp 39) 40 27 (.agg (nums .u8 (List.replicate 32 0)).toArray) 32 rfl Try.underlying40 info32c rfl (by decide) (by decide) _ (m.loc.take k) (rdH m.loc k) P (fun _ => True) (fun _ => False) rfl (by first | (go_simp; done) | (go_simp; rfl)) (HCM.out _) (fun _ h => h.elim) (fun _ _ => trivial) HRR.out HBB.out HBB.out.size HTL.out ?_; intro v4 w4 ho hb hg hat; rw [← HTK.out] at ho; obtain ⟨A4, n4, c4, rfl, f4, z4, hO4⟩ := OSt.pushL (HLV.out ▸ HOA.out) ho hb hg; have HO4 := Lib.hid hO4; clear ho hb hg hat hO4))
      go_roundw
      case rel => exact ⟨k + 1, by have := HLT.out; omega, by first | rfl | (rw [wk]) | simp, Lib.hid ⟨_, HO4.out⟩⟩
      case measure => exact meas_m HLT.out (by first | exact wk | simp)
    · obtain ⟨wq, rfl⟩ : ∃ x, x = wr := ⟨wr, rfl⟩
      have hkn : k = n1 := by omega
      have hg : decide ((k : Int) < (n1 : Int)) = false := decide_eq_false (by omega)
      have hg2 : (k < n1) = False := eq_false (by omega)
      have HOQ := Lib.hid (show OSt Z (w.heap.size + 1) w wq w.heap.size bo a m lv (.slice none 0 0) (.slice none 0 0) n1 0 0 by rw [← hkn]; exact hO)
      obtain ⟨_, _, c34, _⟩ := hO.box.cells
      rw [HN2.out] at c34
      obtain ⟨Ah, hAh⟩ : ∃ x, a.ha = x := ⟨_, rfl⟩
      rw [hAh] at c34 HL2E
      clear hO H hlt hk hkn hAh
      go_wp2_with fail
      clear hg hg2 c34
      have hzF := (zero_of_info infoH).1
      have hzR := (zero_of_info infoR).1
      obtain ⟨ZF, hZF⟩ : ∃ C, (hcells 0 z32 z32 0 0 0).toArray = C := ⟨_, rfl⟩
      rw [hZF] at hzF
      have HZF := Lib.hid (show ZF.size = 68 by rw [← hZF]; simp; rw [hcells_len _ _ _ _ _ _ (by decide) (by decide)])
      have HUH := Lib.hid Try.underlying54
      clear hZF hzR
      go_loopw [46] (fun i wr => ∃ k : Nat, k ≤ n2 ∧ i = .int .i64 (k : Int) ∧ Hid (∃ hv, OSt Z (w.heap.size + 1) w wr w.heap.size bo a m lv hv (.slice none 0 0) n1 k 0)) (fun i _ => n2 + 1 - (intOf i).toNat)
      case atStart => exact ⟨0, Nat.zero_le _, rfl, Lib.hid ⟨_, HOQ.out⟩⟩
      case round =>
        obtain ⟨k, hk, rfl, H⟩ := hrel
        obtain ⟨hv, hO⟩ := H.out
        by_cases hlt : k < n2
        · have b1 : decide ((k : Int) < (n2 : Int)) = true := decide_eq_true (by omega)
          have hklt : k < m.heads.length := by rw [HN2.out]; exact hlt
          obtain ⟨b, o, rfl, hbl, hrg⟩ := C_heads (by have h := Kd.C_below HL2E.out hO.bel; rw [← HN2.out] at h; exact h) (by omega)
          obtain ⟨hr0, hp32, hr32⟩ := hrg k hklt
          have hcm := fun (u : World) => kHd_M (w := u) (base := w.heap.size) (ok := fun _ => False) hp32 hr32
          have hcl := hcT_len hp32 hr32
          have hone := hcells_one1 (rdHd m.heads k).v (rdHd m.heads k).p (rdHd m.heads k).r (rdHd m.heads k).t (rdHd m.heads k).b (rdHd m.heads k).n
          have hbs := fun u => run_head1 (rdHd m.heads k).v (rdHd m.heads k).p (rdHd m.heads k).r (rdHd m.heads k).t (rdHd m.heads k).b (rdHd m.heads k).n hp32 hr32 u
          have HLR := Lib.hid (fun u => lref_calls (rdHd m.heads k).v (rdHd m.heads k).p (rdHd m.heads k).r (rdHd m.heads k).t (rdHd m.heads k).b (rdHd m.heads k).n u hp32 hr32)
          unfold hV at HLR
          obtain ⟨C', hC'⟩ : ∃ C', hcT (rdHd m.heads k) = C' := ⟨_, rfl⟩
          have hC2 : hcells (rdHd m.heads k).v (rdHd m.heads k).p (rdHd m.heads k).r (rdHd m.heads k).t (rdHd m.heads k).b (rdHd m.heads k).n = C' := hC'
          rw [hC2] at HLR hbs hone
          rw [hC'] at hr0 hcm hcl
          have HF := Lib.hid (show (Try.prog.info? 54).map (·.size) = some C'.length ∧ (Try.prog.info? 54).map (·.size) = some C'.toArray.size ∧ ZF.size = C'.toArray.size ∧ C'.toArray.all (·.oneCell') = true from
            ⟨by rw [hcl]; exact (zero_of_info infoH).2, by rw [List.size_toArray, hcl]; exact (zero_of_info infoH).2, HZF.out.trans (by rw [List.size_toArray, hcl]), all_oneCell_toArray hone⟩)
          have hi := HF.out.1
          have HR0 := Lib.hid hr0
          have hOA := hO.below (below_alloc (Below.refl _ _) (.cells C'.toArray 54))
          have hOD := hOA.below (below_drew (Below.refl _ _))
          have HOD := Lib.hid hOD
          obtain ⟨_, x34, _⟩ := hOD.cells
          obtain ⟨_, ⟨A1, m1, cc1, hlv⟩, _⟩ := hOA.shapes
          subst hlv
          have hnk := heap_alloc_new wr (.cells C'.toArray 54)
          have hbne : bo ≠ wr.heap.size := by have := blk_lt hO.blk; omega
          have HSA := Lib.hid (show ∀ u : World, Below (wr.alloc (.cells C'.toArray 54)).drew.heap.size (wr.alloc (.cells C'.toArray 54)).drew u → u.rangeAt wr.heap.size 0 C' from fun u hu j v hj => by
            have h1 : (wr.alloc (.cells C'.toArray 54)).drew.heap[wr.heap.size]? = some (.cells C'.toArray 54 (0, 0)) := hnk
            have h2 := (hu.block _ (blk_lt h1)).trans h1
            rw [Nat.zero_add, blk_cell h2, List.getElem?_toArray]
            exact hj)
          have HSG := Lib.hid (show ∀ (u w4 : World) (x : Value), OSt Z (w.heap.size + 1) w u w.heap.size bo a m lv x (.slice none 0 0) n1 k 0 → Below (wr.alloc (.cells C'.toArray 54)).drew.heap.size (wr.alloc (.cells C'.toArray 54)).drew u → u.grownBy w4 x.ownBlock → w4.rangeAt wr.heap.size 0 C' from fun u w4 x hOu hu hg4 j v hj => by
            have h1 : (wr.alloc (.cells C'.toArray 54)).drew.heap[wr.heap.size]? = some (.cells C'.toArray 54 (0, 0)) := hnk
            have h2 := (hu.block _ (blk_lt h1)).trans h1
            have h3 := (hg4.block _ (blk_lt h2) (Kd.R_ne hOu.rh h2 (by decide))).trans h2
            rw [Nat.zero_add, blk_cell h3, List.getElem?_toArray]
            exact hj)
          have HSF := Lib.hid (show ∀ (u : World) (x : Value), u.rangeAt wr.heap.size 0 C' → (u.setCell ⟨bo, 34, none⟩ x).rangeAt wr.heap.size 0 C' from fun u x hu j v hj => by
            have h1 := hu j v hj
            unfold World.cell? at h1 ⊢
            rw [show (u.setCell ⟨bo, 34, none⟩ x).heap[wr.heap.size]? = u.heap[wr.heap.size]? from Below.heap_setCell u ⟨bo, 34, none⟩ x wr.heap.size (fun e => hbne e.symm)]
            exact h1)
          have HS0 := Lib.hid (HSA.out _ (Below.refl _ _))
          have HCM := Lib.hid hcm
          have HTL := Lib.hid (show ((m.heads.take k).length + 1) * 80 ≤ 140737488355328 by rw [List.length_take]; have := HL2.out; omega)
          have HTK := Lib.hid (take_head hklt)
          have wk : wrap64 ((k : Int) + 1) = ((k + 1 : Nat) : Int) := take_cast rfl (by have := HL2.out; omega)
          have HLT := Lib.hid hlt
          have hu := HUH.out
          clear hO hOA hOD hrg hr0 hp32 hr32 hcm hcl hone hC' hC2 hbl H hk hlt hklt hnk hbne
          go_wp2_with (first
            | ((with_reducible show wpList _ _ _ (Oper.mk _ (Op.load _ (.tmp 48)) _ _ _ _ :: _) _ _); (go_loud (refine wpList_load_mid rfl 54 (.tmp 48) rfl b (o + k * 68) rfl C' _ HR0.out HUH.out rfl HF.out.1 ?_)))
            | ((with_reducible show wpList _ _ _ (Oper.mk _ (Op.store _ (.tmp 7) _) _ _ _ _ :: _) _ _); (go_loud (refine wpl_store_new rfl 54 (.tmp 7) (.tmp 49) rfl ZF C'.toArray rfl rfl HF.out.2.1 HF.out.2.2.1 HF.out.2.2.2 ?_))))
          refine wp_region_held (S := fun u => u.rangeAt wr.heap.size 0 C') (by kernel_rfl) ?_
          change wpAnyH _ _ _ _ _ _ _ _ (World.drew _)
          have hHeld := HS0.out
          refine wpAnyH_take (i := 0) (oi := ({ dst := some 50, op := Op.fieldAddr 44 (Operand.tmp 3) 3, type := 0, pos := "law.go:26", after := #[], guard := none } : Oper)) (v := .pointer (some ⟨bo, 34, none⟩)) rfl (by kernel_rfl) (by kernel_rfl) (by kernel_rfl) (fun _ _ _ h => h) (Or.inl ⟨by rfl, fun w hSw => by go_simp⟩) hHeld ?_
          simp only [Act.put, List.setIfInBounds_toArray, List.set_cons_zero, List.set_cons_succ]
          refine wpAnyH_take (i := 2) (oi := ({ dst := some 52, op := Op.load 54 (Operand.tmp 7), type := 54, pos := "law.go:26", after := #[], guard := none } : Oper)) (v := .agg C'.toArray) rfl (by kernel_rfl) (by kernel_rfl) (by kernel_rfl) (fun _ _ _ h => h) (yieldsIf_load_mid (by rfl) _ _ rfl wr.heap.size 0 rfl C' _ (fun _ h => h) hu rfl hi) hHeld ?_
          simp only [Act.put, List.setIfInBounds_toArray, List.set_cons_zero, List.set_cons_succ]
          refine wpAnyH_ready (rs := [1, 3]) (by kernel_rfl) (by simp) ?_
          refine AllReadyH.cons (o := ({ dst := some 51, op := Op.load 41 (Operand.tmp 50), type := 41, pos := "law.go:26", after := #[{ on := 0, ground := Ground.data }], guard := none } : Oper)) rfl (fun K hK => ?_) (AllReadyH.cons (o := ({ dst := some 53, op := Op.call { callee := Callee.value (Operand.func 28), args := #[Operand.tmp 52], argTypes := #[54] }, type := 72, pos := "law.go:26", after := #[{ on := 2, ground := Ground.data }], guard := none } : Oper)) rfl (fun K hK => ?_) AllReadyH.nil)
          focus
            go_simp
            refine hK.out _ _ (HS0.out) (fun hHeld => ?_)
            clear hK K
            try simp only [Act.put, List.setIfInBounds_toArray, List.set_cons_zero, List.set_cons_succ]
            refine wpAnyH_ready (rs := [3]) (by kernel_rfl) (by simp) ?_
            refine AllReadyH.cons (o := ({ dst := some 53, op := Op.call { callee := Callee.value (Operand.func 28), args := #[Operand.tmp 52], argTypes := #[54] }, type := 72, pos := "law.go:26", after := #[{ on := 2, ground := Ground.data }], guard := none } : Oper)) rfl (fun K hK => ?_) AllReadyH.nil
            go_simp
            (with_reducible refine (HLR.out _).mono ?_)
            rintro e w3 ⟨rfl, hb3⟩
            have HO3 := Lib.hid (HOD.out.below hb3)
            have HB3 := Lib.hid hb3
            clear hb3
            have hs3 := HSA.out _ HB3.out
            have hs4 := HSA.out _ (below_alloc HB3.out (.cells C'.toArray 72))
            obtain ⟨_, y3, _⟩ := HO3.out.cells
            obtain ⟨_, y4, _⟩ := (HO3.out.below (below_alloc (Below.refl _ _) (.cells C'.toArray 72))).cells
            go_wp2_with fail
            refine hK.out _ _ (hs3) (fun hHeld => ?_)
            clear hK K
            try simp only [Act.put, List.setIfInBounds_toArray, List.set_cons_zero, List.set_cons_succ]
            refine wpAnyH_ready (rs := [4]) (by kernel_rfl) (by simp) ?_
            refine AllReadyH.cons (o := ({ dst := some 54, op := Op.buildSlice 41 1 #[(0, Operand.tmp 53)], type := 41, pos := "law.go:26", after := #[{ on := 3, ground := Ground.data }], guard := none } : Oper)) rfl (fun K hK => ?_) AllReadyH.nil
            go_simp
            refine hK.out _ _ (hs4) (fun hHeld => ?_)
            clear hK K
            try simp only [Act.put, List.setIfInBounds_toArray, List.set_cons_zero, List.set_cons_succ]
            refine wpAnyH_ready (rs := [5]) (by kernel_rfl) (by simp) ?_
            refine AllReadyH.cons (o := ({ dst := some 55, op := Op.call { callee := Callee.builtin Builtin.append, args := #[Operand.tmp 51, Operand.tmp 54], argTypes := #[41, 41] }, type := 41, pos := "law.go:26", after := #[{ on := 1, ground := Ground.data }, { on := 4, ground := Ground.data }, { on := 3, ground := Ground.chain }], guard := none } : Oper)) rfl (fun K hK => ?_) AllReadyH.nil
            refine Kd.R_append_step kHd (W := w3) (w0 := w) w.heap.size (by rfl) (.tmp 51) (.tmp 54) 41 72 (.agg (hcells 0 z32 z32 0 0 0).toArray) 80 (by rfl) Try.underlying41 infoHd3 (by rfl) (by decide) (by decide) (.slice A1 m1 cc1) (m.heads.take k) (rdHd m.heads k) C' (fun _ => True) (fun _ => False) (by rfl) (by rfl) (HCM.out _) (fun _ h => h.elim) (fun _ _ => trivial) HO3.out.rh HO3.out.bel HO3.out.bel.size HTL.out ?_
            intro v4 w4 ho hb hg hat
            rw [← HTK.out] at ho
            obtain ⟨A4, n4, c4, rfl, f4, z4, hO4⟩ := OSt.pushH HO3.out ho hb hg
            have HO4 := Lib.hid hO4
            have s4 := HSG.out w3 w4 _ HO3.out HB3.out hg
            have s5 := HSF.out w4 (.slice A4 n4 c4) s4
            clear ho hb hg hat hO4
            refine hK.out _ _ (s4) (fun hHeld => ?_)
            clear hK K
            try simp only [Act.put, List.setIfInBounds_toArray, List.set_cons_zero, List.set_cons_succ]
            refine wpAnyH_take (i := 6) (oi := ({ dst := some 56, op := Op.fieldAddr 44 (Operand.tmp 3) 3, type := 0, pos := "law.go:26", after := #[{ on := 0, ground := Ground.phase }, { on := 1, ground := Ground.phase }, { on := 2, ground := Ground.phase }, { on := 3, ground := Ground.phase }, { on := 4, ground := Ground.phase }, { on := 5, ground := Ground.phase }], guard := none } : Oper)) (v := .pointer (some ⟨bo, 34, none⟩)) rfl (by kernel_rfl) (by kernel_rfl) (by kernel_rfl) (fun _ _ _ h => h) (Or.inl ⟨by rfl, fun w hSw => by go_simp⟩) hHeld ?_
            simp only [Act.put, List.setIfInBounds_toArray, List.set_cons_zero, List.set_cons_succ]
            refine wpAnyH_ready (rs := [7]) (by kernel_rfl) (by simp) ?_
            refine AllReadyH.cons (o := ({ dst := none, op := Op.store 41 (Operand.tmp 56) (Operand.tmp 55), type := 0, pos := "law.go:26", after := #[{ on := 6, ground := Ground.data }, { on := 5, ground := Ground.data }, { on := 5, ground := Ground.chain }, { on := 0, ground := Ground.phase }, { on := 1, ground := Ground.phase }, { on := 2, ground := Ground.phase }, { on := 3, ground := Ground.phase }, { on := 4, ground := Ground.phase }, { on := 5, ground := Ground.phase }], guard := none } : Oper)) rfl (fun K hK => ?_) AllReadyH.nil
            go_simp
            refine hK.out _ _ (s5) (fun hHeld => ?_)
            clear hK K
            try simp only [Act.put, List.setIfInBounds_toArray, List.set_cons_zero, List.set_cons_succ]
            refine wpAnyH_done (by kernel_rfl) ?_ _
            clear hHeld s4 s5 f4 z4 hs3 hs4 y3 y4 hbs x34
            go_wp2_with fail
            go_roundw
            case rel => exact ⟨k + 1, by have := HLT.out; omega, by first | rfl | (rw [wk]) | simp, Lib.hid ⟨_, HO4.out⟩⟩
            case measure => exact meas_m HLT.out (by first | exact wk | simp)
          focus
            go_simp
            (with_reducible refine (HLR.out _).mono ?_)
            rintro e w3 ⟨rfl, hb3⟩
            have HO3 := Lib.hid (HOD.out.below hb3)
            have HB3 := Lib.hid hb3
            clear hb3
            have hs3 := HSA.out _ HB3.out
            have hs4 := HSA.out _ (below_alloc HB3.out (.cells C'.toArray 72))
            obtain ⟨_, y3, _⟩ := HO3.out.cells
            obtain ⟨_, y4, _⟩ := (HO3.out.below (below_alloc (Below.refl _ _) (.cells C'.toArray 72))).cells
            go_wp2_with fail
            refine hK.out _ _ (hs3) (fun hHeld => ?_)
            clear hK K
            try simp only [Act.put, List.setIfInBounds_toArray, List.set_cons_zero, List.set_cons_succ]
            refine wpAnyH_ready (rs := [1, 4]) (by kernel_rfl) (by simp) ?_
            refine AllReadyH.cons (o := ({ dst := some 51, op := Op.load 41 (Operand.tmp 50), type := 41, pos := "law.go:26", after := #[{ on := 0, ground := Ground.data }], guard := none } : Oper)) rfl (fun K hK => ?_) (AllReadyH.cons (o := ({ dst := some 54, op := Op.buildSlice 41 1 #[(0, Operand.tmp 53)], type := 41, pos := "law.go:26", after := #[{ on := 3, ground := Ground.data }], guard := none } : Oper)) rfl (fun K hK => ?_) AllReadyH.nil)
            focus
              go_simp
              refine hK.out _ _ (hs3) (fun hHeld => ?_)
              clear hK K
              try simp only [Act.put, List.setIfInBounds_toArray, List.set_cons_zero, List.set_cons_succ]
              refine wpAnyH_ready (rs := [4]) (by kernel_rfl) (by simp) ?_
              refine AllReadyH.cons (o := ({ dst := some 54, op := Op.buildSlice 41 1 #[(0, Operand.tmp 53)], type := 41, pos := "law.go:26", after := #[{ on := 3, ground := Ground.data }], guard := none } : Oper)) rfl (fun K hK => ?_) AllReadyH.nil
              go_simp
              refine hK.out _ _ (hs4) (fun hHeld => ?_)
              clear hK K
              try simp only [Act.put, List.setIfInBounds_toArray, List.set_cons_zero, List.set_cons_succ]
              refine wpAnyH_ready (rs := [5]) (by kernel_rfl) (by simp) ?_
              refine AllReadyH.cons (o := ({ dst := some 55, op := Op.call { callee := Callee.builtin Builtin.append, args := #[Operand.tmp 51, Operand.tmp 54], argTypes := #[41, 41] }, type := 41, pos := "law.go:26", after := #[{ on := 1, ground := Ground.data }, { on := 4, ground := Ground.data }, { on := 3, ground := Ground.chain }], guard := none } : Oper)) rfl (fun K hK => ?_) AllReadyH.nil
              refine Kd.R_append_step kHd (W := w3) (w0 := w) w.heap.size (by rfl) (.tmp 51) (.tmp 54) 41 72 (.agg (hcells 0 z32 z32 0 0 0).toArray) 80 (by rfl) Try.underlying41 infoHd3 (by rfl) (by decide) (by decide) (.slice A1 m1 cc1) (m.heads.take k) (rdHd m.heads k) C' (fun _ => True) (fun _ => False) (by rfl) (by rfl) (HCM.out _) (fun _ h => h.elim) (fun _ _ => trivial) HO3.out.rh HO3.out.bel HO3.out.bel.size HTL.out ?_
              intro v4 w4 ho hb hg hat
              rw [← HTK.out] at ho
              obtain ⟨A4, n4, c4, rfl, f4, z4, hO4⟩ := OSt.pushH HO3.out ho hb hg
              have HO4 := Lib.hid hO4
              have s4 := HSG.out w3 w4 _ HO3.out HB3.out hg
              have s5 := HSF.out w4 (.slice A4 n4 c4) s4
              clear ho hb hg hat hO4
              refine hK.out _ _ (s4) (fun hHeld => ?_)
              clear hK K
              try simp only [Act.put, List.setIfInBounds_toArray, List.set_cons_zero, List.set_cons_succ]
              refine wpAnyH_take (i := 6) (oi := ({ dst := some 56, op := Op.fieldAddr 44 (Operand.tmp 3) 3, type := 0, pos := "law.go:26", after := #[{ on := 0, ground := Ground.phase }, { on := 1, ground := Ground.phase }, { on := 2, ground := Ground.phase }, { on := 3, ground := Ground.phase }, { on := 4, ground := Ground.phase }, { on := 5, ground := Ground.phase }], guard := none } : Oper)) (v := .pointer (some ⟨bo, 34, none⟩)) rfl (by kernel_rfl) (by kernel_rfl) (by kernel_rfl) (fun _ _ _ h => h) (Or.inl ⟨by rfl, fun w hSw => by go_simp⟩) hHeld ?_
              simp only [Act.put, List.setIfInBounds_toArray, List.set_cons_zero, List.set_cons_succ]
              refine wpAnyH_ready (rs := [7]) (by kernel_rfl) (by simp) ?_
              refine AllReadyH.cons (o := ({ dst := none, op := Op.store 41 (Operand.tmp 56) (Operand.tmp 55), type := 0, pos := "law.go:26", after := #[{ on := 6, ground := Ground.data }, { on := 5, ground := Ground.data }, { on := 5, ground := Ground.chain }, { on := 0, ground := Ground.phase }, { on := 1, ground := Ground.phase }, { on := 2, ground := Ground.phase }, { on := 3, ground := Ground.phase }, { on := 4, ground := Ground.phase }, { on := 5, ground := Ground.phase }], guard := none } : Oper)) rfl (fun K hK => ?_) AllReadyH.nil
              go_simp
              refine hK.out _ _ (s5) (fun hHeld => ?_)
              clear hK K
              try simp only [Act.put, List.setIfInBounds_toArray, List.set_cons_zero, List.set_cons_succ]
              refine wpAnyH_done (by kernel_rfl) ?_ _
              clear hHeld s4 s5 f4 z4 hs3 hs4 y3 y4 hbs x34
              go_wp2_with fail
              go_roundw
              case rel => exact ⟨k + 1, by have := HLT.out; omega, by first | rfl | (rw [wk]) | simp, Lib.hid ⟨_, HO4.out⟩⟩
              case measure => exact meas_m HLT.out (by first | exact wk | simp)
            focus
              go_simp
              refine hK.out _ _ (hs4) (fun hHeld => ?_)
              clear hK K
              try simp only [Act.put, List.setIfInBounds_toArray, List.set_cons_zero, List.set_cons_succ]
              refine wpAnyH_ready (rs := [1]) (by kernel_rfl) (by simp) ?_
              refine AllReadyH.cons (o := ({ dst := some 51, op := Op.load 41 (Operand.tmp 50), type := 41, pos := "law.go:26", after := #[{ on := 0, ground := Ground.data }], guard := none } : Oper)) rfl (fun K hK => ?_) AllReadyH.nil
              go_simp
              refine hK.out _ _ (hs4) (fun hHeld => ?_)
              clear hK K
              try simp only [Act.put, List.setIfInBounds_toArray, List.set_cons_zero, List.set_cons_succ]
              refine wpAnyH_ready (rs := [5]) (by kernel_rfl) (by simp) ?_
              refine AllReadyH.cons (o := ({ dst := some 55, op := Op.call { callee := Callee.builtin Builtin.append, args := #[Operand.tmp 51, Operand.tmp 54], argTypes := #[41, 41] }, type := 41, pos := "law.go:26", after := #[{ on := 1, ground := Ground.data }, { on := 4, ground := Ground.data }, { on := 3, ground := Ground.chain }], guard := none } : Oper)) rfl (fun K hK => ?_) AllReadyH.nil
              refine Kd.R_append_step kHd (W := w3) (w0 := w) w.heap.size (by rfl) (.tmp 51) (.tmp 54) 41 72 (.agg (hcells 0 z32 z32 0 0 0).toArray) 80 (by rfl) Try.underlying41 infoHd3 (by rfl) (by decide) (by decide) (.slice A1 m1 cc1) (m.heads.take k) (rdHd m.heads k) C' (fun _ => True) (fun _ => False) (by rfl) (by rfl) (HCM.out _) (fun _ h => h.elim) (fun _ _ => trivial) HO3.out.rh HO3.out.bel HO3.out.bel.size HTL.out ?_
              intro v4 w4 ho hb hg hat
              rw [← HTK.out] at ho
              obtain ⟨A4, n4, c4, rfl, f4, z4, hO4⟩ := OSt.pushH HO3.out ho hb hg
              have HO4 := Lib.hid hO4
              have s4 := HSG.out w3 w4 _ HO3.out HB3.out hg
              have s5 := HSF.out w4 (.slice A4 n4 c4) s4
              clear ho hb hg hat hO4
              refine hK.out _ _ (s4) (fun hHeld => ?_)
              clear hK K
              try simp only [Act.put, List.setIfInBounds_toArray, List.set_cons_zero, List.set_cons_succ]
              refine wpAnyH_take (i := 6) (oi := ({ dst := some 56, op := Op.fieldAddr 44 (Operand.tmp 3) 3, type := 0, pos := "law.go:26", after := #[{ on := 0, ground := Ground.phase }, { on := 1, ground := Ground.phase }, { on := 2, ground := Ground.phase }, { on := 3, ground := Ground.phase }, { on := 4, ground := Ground.phase }, { on := 5, ground := Ground.phase }], guard := none } : Oper)) (v := .pointer (some ⟨bo, 34, none⟩)) rfl (by kernel_rfl) (by kernel_rfl) (by kernel_rfl) (fun _ _ _ h => h) (Or.inl ⟨by rfl, fun w hSw => by go_simp⟩) hHeld ?_
              simp only [Act.put, List.setIfInBounds_toArray, List.set_cons_zero, List.set_cons_succ]
              refine wpAnyH_ready (rs := [7]) (by kernel_rfl) (by simp) ?_
              refine AllReadyH.cons (o := ({ dst := none, op := Op.store 41 (Operand.tmp 56) (Operand.tmp 55), type := 0, pos := "law.go:26", after := #[{ on := 6, ground := Ground.data }, { on := 5, ground := Ground.data }, { on := 5, ground := Ground.chain }, { on := 0, ground := Ground.phase }, { on := 1, ground := Ground.phase }, { on := 2, ground := Ground.phase }, { on := 3, ground := Ground.phase }, { on := 4, ground := Ground.phase }, { on := 5, ground := Ground.phase }], guard := none } : Oper)) rfl (fun K hK => ?_) AllReadyH.nil
              go_simp
              refine hK.out _ _ (s5) (fun hHeld => ?_)
              clear hK K
              try simp only [Act.put, List.setIfInBounds_toArray, List.set_cons_zero, List.set_cons_succ]
              refine wpAnyH_done (by kernel_rfl) ?_ _
              clear hHeld s4 s5 f4 z4 hs3 hs4 y3 y4 hbs x34
              go_wp2_with fail
              go_roundw
              case rel => exact ⟨k + 1, by have := HLT.out; omega, by first | rfl | (rw [wk]) | simp, Lib.hid ⟨_, HO4.out⟩⟩
              case measure => exact meas_m HLT.out (by first | exact wk | simp)
        · obtain ⟨wp, rfl⟩ : ∃ x, x = wr := ⟨wr, rfl⟩
          have hkn : k = n2 := by omega
          have hg : decide ((k : Int) < (n2 : Int)) = false := decide_eq_false (by omega)
          have hg2 : (k < n2) = False := eq_false (by omega)
          have HOQ3 := Lib.hid (show OSt Z (w.heap.size + 1) w wp w.heap.size bo a m lv hv (.slice none 0 0) n1 n2 0 by rw [← hkn]; exact hO)
          obtain ⟨_, _, _, _, _, c69, _⟩ := hO.box.cells
          rw [HN3.out] at c69
          obtain ⟨Ae, hAe⟩ : ∃ x, a.ea = x := ⟨_, rfl⟩
          rw [hAe] at c69 HL3E
          clear hO H hlt hk hkn hAe
          go_wp2_with fail
          clear hg hg2 c69
          have hzE := (zero_of_info infoE4).1
          go_loopw [61] (fun i wr => ∃ k : Nat, k ≤ n3 ∧ i = .int .i64 (k : Int) ∧ Hid (∃ ev, OSt Z (w.heap.size + 1) w wr w.heap.size bo a m lv hv ev n1 n2 k)) (fun i _ => n3 + 1 - (intOf i).toNat)
          case atStart => exact ⟨0, Nat.zero_le _, rfl, Lib.hid ⟨_, HOQ3.out⟩⟩
          case round =>
            obtain ⟨k, hk, rfl, H⟩ := hrel
            obtain ⟨ev, hO⟩ := H.out
            by_cases hlt : k < n3
            · have b1 : decide ((k : Int) < (n3 : Int)) = true := decide_eq_true (by omega)
              have hklt : k < m.ents.length := by rw [HN3.out]; exact hlt
              obtain ⟨ad, Ax, cx, A2, c2, rfl, x0, x1, x2, x3, l1, C1, l2, C2⟩ := at_E HL3E.out (k : Int) (by omega) (by omega)
              have hmem := rdE_mem (xs := m.ents) (i := (k : Int)) (by omega) (by omega)
              have hwe := HWF.out.ents _ hmem
              have hl4 := HL4.out _ hmem
              have htk := takeE (xs := m.ents) (k := (k : Int)) (by omega) (by omega)
              rw [show ((k : Int) + 1).toNat = k + 1 by omega, Int.toNat_natCast] at htk
              have HTK := Lib.hid htk
              replace x0 := pw_cell_below hO.bel x0
              replace x1 := pw_cell_below hO.bel x1
              replace x2 := pw_cell_below hO.bel x2
              replace x3 := pw_cell_below hO.bel x3
              rw [Int.toNat_natCast] at x0 x1 x2 x3
              have HRE := Lib.hid (fun (u : World) (hu : Below w.heap.size w u) => rentry_calls Ax cx (rdE m.ents (k : Int)).tx (rdE m.ents (k : Int)).cnt (rdE m.ents (k : Int)).idx A2 (rdE m.ents (k : Int)).path.length c2 (rdE m.ents (k : Int)).path u (Kd.C_below C1 hu) rfl (Kd.C_below C2 hu) l2 hl4 hwe.2)
              have HKM := Lib.hid (fun (u : World) (v : Value) (ok : Nat → Prop) (h : Kd.R kH 27 u w.heap.size ok v (rdE m.ents (k : Int)).path) => kEr_M (x := rdE m.ents (k : Int)) h)
              obtain ⟨nt, hnt⟩ : ∃ n, (rdE m.ents (k : Int)).tx.length = n := ⟨_, rfl⟩
              obtain ⟨np, hnp⟩ : ∃ n, (rdE m.ents (k : Int)).path.length = n := ⟨_, rfl⟩
              obtain ⟨sT, hsT⟩ : ∃ n, strOfNums (rdE m.ents (k : Int)).tx = n := ⟨_, rfl⟩
              obtain ⟨cnt, hcnt⟩ : ∃ n, (rdE m.ents (k : Int)).cnt = n := ⟨_, rfl⟩
              obtain ⟨idx, hidx⟩ : ∃ n, (rdE m.ents (k : Int)).idx = n := ⟨_, rfl⟩
              rw [hnt] at x0 HRE
              rw [hnp] at x3 HRE
              rw [hsT] at HRE HKM
              rw [hcnt] at x1 HRE HKM
              rw [hidx] at x2 HRE HKM
              have hOA := hO.below (below_alloc (Below.refl _ _) (.cells #[.slice Ax nt cx, .int .i64 cnt, .int .i64 idx, .slice A2 np c2] 67))
              have hOD := hOA.below (below_drew (Below.refl _ _))
              have HOD := Lib.hid hOD
              have HBD := Lib.hid hOD.bel
              obtain ⟨_, _, x69⟩ := hOD.cells
              obtain ⟨_, _, ⟨A1, m1, cc1, hev⟩⟩ := hOA.shapes
              subst hev
              have hnk := heap_alloc_new wr (.cells #[.slice Ax nt cx, .int .i64 cnt, .int .i64 idx, .slice A2 np c2] 67)
              have hbne : bo ≠ wr.heap.size := by have := blk_lt hO.blk; omega
              obtain ⟨CE, hCE⟩ : ∃ C, ([.slice Ax nt cx, .int .i64 cnt, .int .i64 idx, .slice A2 np c2] : List Value) = C := ⟨_, rfl⟩
              have HSA := Lib.hid (show ∀ u : World, Below (wr.alloc (.cells #[.slice Ax nt cx, .int .i64 cnt, .int .i64 idx, .slice A2 np c2] 67)).drew.heap.size (wr.alloc (.cells #[.slice Ax nt cx, .int .i64 cnt, .int .i64 idx, .slice A2 np c2] 67)).drew u → u.rangeAt wr.heap.size 0 CE from fun u hu j v hj => by
                have h1 : (wr.alloc (.cells #[.slice Ax nt cx, .int .i64 cnt, .int .i64 idx, .slice A2 np c2] 67)).drew.heap[wr.heap.size]? = some (.cells #[.slice Ax nt cx, .int .i64 cnt, .int .i64 idx, .slice A2 np c2] 67 (0, 0)) := hnk
                have h2 := (hu.block _ (blk_lt h1)).trans h1
                rw [← hCE] at hj
                rw [Nat.zero_add, blk_cell h2, List.getElem?_toArray]
                exact hj)
              have HSG := Lib.hid (show ∀ (u w4 : World) (x : Value), OSt Z (w.heap.size + 1) w u w.heap.size bo a m lv hv x n1 n2 k → Below (wr.alloc (.cells #[.slice Ax nt cx, .int .i64 cnt, .int .i64 idx, .slice A2 np c2] 67)).drew.heap.size (wr.alloc (.cells #[.slice Ax nt cx, .int .i64 cnt, .int .i64 idx, .slice A2 np c2] 67)).drew u → u.grownBy w4 x.ownBlock → w4.rangeAt wr.heap.size 0 CE from fun u w4 x hOu hu hg4 j v hj => by
                have h1 : (wr.alloc (.cells #[.slice Ax nt cx, .int .i64 cnt, .int .i64 idx, .slice A2 np c2] 67)).drew.heap[wr.heap.size]? = some (.cells #[.slice Ax nt cx, .int .i64 cnt, .int .i64 idx, .slice A2 np c2] 67 (0, 0)) := hnk
                have h2 := (hu.block _ (blk_lt h1)).trans h1
                have h3 := (hg4.block _ (blk_lt h2) (Kd.R_ne hOu.re h2 (by decide))).trans h2
                rw [← hCE] at hj
                rw [Nat.zero_add, blk_cell h3, List.getElem?_toArray]
                exact hj)
              have HSF := Lib.hid (show ∀ (u : World) (x : Value), u.rangeAt wr.heap.size 0 CE → (u.setCell ⟨bo, 69, none⟩ x).rangeAt wr.heap.size 0 CE from fun u x hu j v hj => by
                have h1 := hu j v hj
                unfold World.cell? at h1 ⊢
                rw [show (u.setCell ⟨bo, 69, none⟩ x).heap[wr.heap.size]? = u.heap[wr.heap.size]? from Below.heap_setCell u ⟨bo, 69, none⟩ x wr.heap.size (fun e => hbne e.symm)]
                exact h1)
              have HS0 := Lib.hid (HSA.out _ (Below.refl _ _))
              have HMK := Lib.hid (show ∀ (u : World) (A3 : Option Addr) (c3 : Nat), Kd.R kH 27 u (wr.alloc (.cells #[.slice Ax nt cx, .int .i64 cnt, .int .i64 idx, .slice A2 np c2] 67)).drew.heap.size (fun _ => True) (.slice A3 np c3) (rdE m.ents (k : Int)).path → Below (wr.alloc (.cells #[.slice Ax nt cx, .int .i64 cnt, .int .i64 idx, .slice A2 np c2] 67)).drew.heap.size (wr.alloc (.cells #[.slice Ax nt cx, .int .i64 cnt, .int .i64 idx, .slice A2 np c2] 67)).drew u → kEr.M u w.heap.size (fun q => some q ≠ (Value.slice A1 m1 cc1).ownBlock) (rdE m.ents (k : Int)) [.string sT, .int .i64 cnt, .int .i64 idx, .slice A3 np c3] from fun u A3 c3 hR hu =>
                HKM.out u _ _ (Kd.R_lower (Kd.R_mono (Kd.R_newR hR HOD.out.re) (fun _ h => h.2)) HOD.out.bel.size))
              have HTL := Lib.hid (show ((m.ents.take k).length + 1) * 56 ≤ 140737488355328 by rw [List.length_take]; have := HL3.out; omega)
              have wk : wrap64 ((k : Int) + 1) = ((k + 1 : Nat) : Int) := take_cast rfl (by have := HL3.out; omega)
              have HLT := Lib.hid hlt
              have hu := Try.underlying67
              have hi : (Try.prog.info? 67).map (·.size) = some CE.length := by rw [← hCE]; exact (zero_of_info infoE4).2
              have hCA : #[.slice Ax nt cx, .int .i64 cnt, .int .i64 idx, .slice A2 np c2] = CE.toArray := by rw [← hCE]
              have HCA := Lib.hid hCA
              clear hO hOA hOD hmem hwe hl4 htk l1 C1 l2 C2 hnt hnp hsT hcnt hidx H hk hlt hklt hnk hbne hCE hCA
              go_wp2_with fail
              refine wp_region_held (S := fun u => u.rangeAt wr.heap.size 0 CE) (by kernel_rfl) ?_
              change wpAnyH _ _ _ _ _ _ _ _ (World.drew _)
              have hHeld := HS0.out
              refine wpAnyH_take (i := 0) (oi := ({ dst := some 65, op := Op.fieldAddr 44 (Operand.tmp 3) 7, type := 0, pos := "law.go:29", after := #[], guard := none } : Oper)) (v := .pointer (some ⟨bo, 69, none⟩)) rfl (by kernel_rfl) (by kernel_rfl) (by kernel_rfl) (fun _ _ _ h => h) (Or.inl ⟨by rfl, fun w hSw => by go_simp⟩) hHeld ?_
              simp only [Act.put, List.setIfInBounds_toArray, List.set_cons_zero, List.set_cons_succ]
              refine wpAnyH_take (i := 2) (oi := ({ dst := some 67, op := Op.load 67 (Operand.tmp 9), type := 67, pos := "law.go:29", after := #[], guard := none } : Oper)) (v := .agg #[.slice Ax nt cx, .int .i64 cnt, .int .i64 idx, .slice A2 np c2]) rfl (by kernel_rfl) (by kernel_rfl) (by kernel_rfl) (fun _ _ _ h => h) (by rw [HCA.out]; exact yieldsIf_load_mid (by rfl) _ _ rfl wr.heap.size 0 rfl CE _ (fun _ h => h) hu rfl hi) hHeld ?_
              simp only [Act.put, List.setIfInBounds_toArray, List.set_cons_zero, List.set_cons_succ]
              refine wpAnyH_ready (rs := [1, 3]) (by kernel_rfl) (by simp) ?_
              refine AllReadyH.cons (o := ({ dst := some 66, op := Op.load 42 (Operand.tmp 65), type := 42, pos := "law.go:29", after := #[{ on := 0, ground := Ground.data }], guard := none } : Oper)) rfl (fun K hK => ?_) (AllReadyH.cons (o := ({ dst := some 68, op := Op.call { callee := Callee.value (Operand.func 29), args := #[Operand.tmp 67], argTypes := #[67] }, type := 77, pos := "law.go:29", after := #[{ on := 2, ground := Ground.data }], guard := none } : Oper)) rfl (fun K hK => ?_) AllReadyH.nil)
              focus
                go_simp
                refine hK.out _ _ (HS0.out) (fun hHeld => ?_)
                clear hK K
                try simp only [Act.put, List.setIfInBounds_toArray, List.set_cons_zero, List.set_cons_succ]
                refine wpAnyH_ready (rs := [3]) (by kernel_rfl) (by simp) ?_
                refine AllReadyH.cons (o := ({ dst := some 68, op := Op.call { callee := Callee.value (Operand.func 29), args := #[Operand.tmp 67], argTypes := #[67] }, type := 77, pos := "law.go:29", after := #[{ on := 2, ground := Ground.data }], guard := none } : Oper)) rfl (fun K hK => ?_) AllReadyH.nil
                go_simp
                (with_reducible refine (HRE.out _ HBD.out).mono ?_)
                rintro e w3 ⟨A3, c3, rfl, hv3, hb3⟩
                have HO3 := Lib.hid (HOD.out.below hb3)
                have HB3 := Lib.hid hb3
                have HM3 := Lib.hid (HMK.out w3 A3 c3 hv3 hb3)
                clear hb3 hv3
                have hs3 := HSA.out _ HB3.out
                have hs4 := HSA.out _ (below_alloc HB3.out (.cells #[.string sT, .int .i64 cnt, .int .i64 idx, .slice A3 np c3] 77))
                obtain ⟨_, _, y3⟩ := HO3.out.cells
                obtain ⟨_, _, y4⟩ := (HO3.out.below (below_alloc (Below.refl _ _) (.cells #[.string sT, .int .i64 cnt, .int .i64 idx, .slice A3 np c3] 77))).cells
                have hbs := fun u => run_ent1 sT cnt idx A3 np c3 u
                go_wp2_with fail
                refine hK.out _ _ (hs3) (fun hHeld => ?_)
                clear hK K
                try simp only [Act.put, List.setIfInBounds_toArray, List.set_cons_zero, List.set_cons_succ]
                refine wpAnyH_ready (rs := [4]) (by kernel_rfl) (by simp) ?_
                refine AllReadyH.cons (o := ({ dst := some 69, op := Op.buildSlice 42 1 #[(0, Operand.tmp 68)], type := 42, pos := "law.go:29", after := #[{ on := 3, ground := Ground.data }], guard := none } : Oper)) rfl (fun K hK => ?_) AllReadyH.nil
                go_simp
                refine hK.out _ _ (hs4) (fun hHeld => ?_)
                clear hK K
                try simp only [Act.put, List.setIfInBounds_toArray, List.set_cons_zero, List.set_cons_succ]
                refine wpAnyH_ready (rs := [5]) (by kernel_rfl) (by simp) ?_
                refine AllReadyH.cons (o := ({ dst := some 70, op := Op.call { callee := Callee.builtin Builtin.append, args := #[Operand.tmp 66, Operand.tmp 69], argTypes := #[42, 42] }, type := 42, pos := "law.go:29", after := #[{ on := 1, ground := Ground.data }, { on := 4, ground := Ground.data }, { on := 3, ground := Ground.chain }], guard := none } : Oper)) rfl (fun K hK => ?_) AllReadyH.nil
                refine Kd.R_append_step kEr (W := w3) (w0 := w) w.heap.size (by rfl) (.tmp 66) (.tmp 69) 42 77 (.agg #[.string ⟨#[]⟩, .int .i64 0, .int .i64 0, .slice none 0 0]) 56 (by rfl) Try.underlying42 infoE3 (by rfl) (by decide) (by decide) (.slice A1 m1 cc1) (m.ents.take k) (rdE m.ents (k : Int)) [.string sT, .int .i64 cnt, .int .i64 idx, .slice A3 np c3] (fun _ => True) (fun q => some q ≠ (Value.slice A1 m1 cc1).ownBlock) (by rfl) (by rfl) HM3.out (fun _ h => ⟨trivial, h⟩) (fun _ _ => trivial) HO3.out.re HO3.out.bel HO3.out.bel.size HTL.out ?_
                intro v4 w4 ho hb hg hat
                rw [← HTK.out] at ho
                obtain ⟨A4, n4, c4, rfl, f4, z4, hO4⟩ := OSt.pushE HO3.out ho hb hg
                have HO4 := Lib.hid hO4
                have s4 := HSG.out w3 w4 _ HO3.out HB3.out hg
                have s5 := HSF.out w4 (.slice A4 n4 c4) s4
                clear ho hb hg hat hO4
                refine hK.out _ _ (s4) (fun hHeld => ?_)
                clear hK K
                try simp only [Act.put, List.setIfInBounds_toArray, List.set_cons_zero, List.set_cons_succ]
                refine wpAnyH_take (i := 6) (oi := ({ dst := some 71, op := Op.fieldAddr 44 (Operand.tmp 3) 7, type := 0, pos := "law.go:29", after := #[{ on := 0, ground := Ground.phase }, { on := 1, ground := Ground.phase }, { on := 2, ground := Ground.phase }, { on := 3, ground := Ground.phase }, { on := 4, ground := Ground.phase }, { on := 5, ground := Ground.phase }], guard := none } : Oper)) (v := .pointer (some ⟨bo, 69, none⟩)) rfl (by kernel_rfl) (by kernel_rfl) (by kernel_rfl) (fun _ _ _ h => h) (Or.inl ⟨by rfl, fun w hSw => by go_simp⟩) hHeld ?_
                simp only [Act.put, List.setIfInBounds_toArray, List.set_cons_zero, List.set_cons_succ]
                refine wpAnyH_ready (rs := [7]) (by kernel_rfl) (by simp) ?_
                refine AllReadyH.cons (o := ({ dst := none, op := Op.store 42 (Operand.tmp 71) (Operand.tmp 70), type := 0, pos := "law.go:29", after := #[{ on := 6, ground := Ground.data }, { on := 5, ground := Ground.data }, { on := 5, ground := Ground.chain }, { on := 0, ground := Ground.phase }, { on := 1, ground := Ground.phase }, { on := 2, ground := Ground.phase }, { on := 3, ground := Ground.phase }, { on := 4, ground := Ground.phase }, { on := 5, ground := Ground.phase }], guard := none } : Oper)) rfl (fun K hK => ?_) AllReadyH.nil
                go_simp
                refine hK.out _ _ (s5) (fun hHeld => ?_)
                clear hK K
                try simp only [Act.put, List.setIfInBounds_toArray, List.set_cons_zero, List.set_cons_succ]
                refine wpAnyH_done (by kernel_rfl) ?_ _
                clear hHeld s4 s5 f4 z4 hs3 hs4 y3 y4 hbs x69
                go_wp2_with fail
                go_roundw
                case rel => exact ⟨k + 1, by have := HLT.out; omega, by first | rfl | (rw [wk]) | simp, Lib.hid ⟨_, HO4.out⟩⟩
                case measure => exact meas_m HLT.out (by first | exact wk | simp)
              focus
                go_simp
                (with_reducible refine (HRE.out _ HBD.out).mono ?_)
                rintro e w3 ⟨A3, c3, rfl, hv3, hb3⟩
                have HO3 := Lib.hid (HOD.out.below hb3)
                have HB3 := Lib.hid hb3
                have HM3 := Lib.hid (HMK.out w3 A3 c3 hv3 hb3)
                clear hb3 hv3
                have hs3 := HSA.out _ HB3.out
                have hs4 := HSA.out _ (below_alloc HB3.out (.cells #[.string sT, .int .i64 cnt, .int .i64 idx, .slice A3 np c3] 77))
                obtain ⟨_, _, y3⟩ := HO3.out.cells
                obtain ⟨_, _, y4⟩ := (HO3.out.below (below_alloc (Below.refl _ _) (.cells #[.string sT, .int .i64 cnt, .int .i64 idx, .slice A3 np c3] 77))).cells
                have hbs := fun u => run_ent1 sT cnt idx A3 np c3 u
                go_wp2_with fail
                refine hK.out _ _ (hs3) (fun hHeld => ?_)
                clear hK K
                try simp only [Act.put, List.setIfInBounds_toArray, List.set_cons_zero, List.set_cons_succ]
                refine wpAnyH_ready (rs := [1, 4]) (by kernel_rfl) (by simp) ?_
                refine AllReadyH.cons (o := ({ dst := some 66, op := Op.load 42 (Operand.tmp 65), type := 42, pos := "law.go:29", after := #[{ on := 0, ground := Ground.data }], guard := none } : Oper)) rfl (fun K hK => ?_) (AllReadyH.cons (o := ({ dst := some 69, op := Op.buildSlice 42 1 #[(0, Operand.tmp 68)], type := 42, pos := "law.go:29", after := #[{ on := 3, ground := Ground.data }], guard := none } : Oper)) rfl (fun K hK => ?_) AllReadyH.nil)
                focus
                  go_simp
                  refine hK.out _ _ (hs3) (fun hHeld => ?_)
                  clear hK K
                  try simp only [Act.put, List.setIfInBounds_toArray, List.set_cons_zero, List.set_cons_succ]
                  refine wpAnyH_ready (rs := [4]) (by kernel_rfl) (by simp) ?_
                  refine AllReadyH.cons (o := ({ dst := some 69, op := Op.buildSlice 42 1 #[(0, Operand.tmp 68)], type := 42, pos := "law.go:29", after := #[{ on := 3, ground := Ground.data }], guard := none } : Oper)) rfl (fun K hK => ?_) AllReadyH.nil
                  go_simp
                  refine hK.out _ _ (hs4) (fun hHeld => ?_)
                  clear hK K
                  try simp only [Act.put, List.setIfInBounds_toArray, List.set_cons_zero, List.set_cons_succ]
                  refine wpAnyH_ready (rs := [5]) (by kernel_rfl) (by simp) ?_
                  refine AllReadyH.cons (o := ({ dst := some 70, op := Op.call { callee := Callee.builtin Builtin.append, args := #[Operand.tmp 66, Operand.tmp 69], argTypes := #[42, 42] }, type := 42, pos := "law.go:29", after := #[{ on := 1, ground := Ground.data }, { on := 4, ground := Ground.data }, { on := 3, ground := Ground.chain }], guard := none } : Oper)) rfl (fun K hK => ?_) AllReadyH.nil
                  refine Kd.R_append_step kEr (W := w3) (w0 := w) w.heap.size (by rfl) (.tmp 66) (.tmp 69) 42 77 (.agg #[.string ⟨#[]⟩, .int .i64 0, .int .i64 0, .slice none 0 0]) 56 (by rfl) Try.underlying42 infoE3 (by rfl) (by decide) (by decide) (.slice A1 m1 cc1) (m.ents.take k) (rdE m.ents (k : Int)) [.string sT, .int .i64 cnt, .int .i64 idx, .slice A3 np c3] (fun _ => True) (fun q => some q ≠ (Value.slice A1 m1 cc1).ownBlock) (by rfl) (by rfl) HM3.out (fun _ h => ⟨trivial, h⟩) (fun _ _ => trivial) HO3.out.re HO3.out.bel HO3.out.bel.size HTL.out ?_
                  intro v4 w4 ho hb hg hat
                  rw [← HTK.out] at ho
                  obtain ⟨A4, n4, c4, rfl, f4, z4, hO4⟩ := OSt.pushE HO3.out ho hb hg
                  have HO4 := Lib.hid hO4
                  have s4 := HSG.out w3 w4 _ HO3.out HB3.out hg
                  have s5 := HSF.out w4 (.slice A4 n4 c4) s4
                  clear ho hb hg hat hO4
                  refine hK.out _ _ (s4) (fun hHeld => ?_)
                  clear hK K
                  try simp only [Act.put, List.setIfInBounds_toArray, List.set_cons_zero, List.set_cons_succ]
                  refine wpAnyH_take (i := 6) (oi := ({ dst := some 71, op := Op.fieldAddr 44 (Operand.tmp 3) 7, type := 0, pos := "law.go:29", after := #[{ on := 0, ground := Ground.phase }, { on := 1, ground := Ground.phase }, { on := 2, ground := Ground.phase }, { on := 3, ground := Ground.phase }, { on := 4, ground := Ground.phase }, { on := 5, ground := Ground.phase }], guard := none } : Oper)) (v := .pointer (some ⟨bo, 69, none⟩)) rfl (by kernel_rfl) (by kernel_rfl) (by kernel_rfl) (fun _ _ _ h => h) (Or.inl ⟨by rfl, fun w hSw => by go_simp⟩) hHeld ?_
                  simp only [Act.put, List.setIfInBounds_toArray, List.set_cons_zero, List.set_cons_succ]
                  refine wpAnyH_ready (rs := [7]) (by kernel_rfl) (by simp) ?_
                  refine AllReadyH.cons (o := ({ dst := none, op := Op.store 42 (Operand.tmp 71) (Operand.tmp 70), type := 0, pos := "law.go:29", after := #[{ on := 6, ground := Ground.data }, { on := 5, ground := Ground.data }, { on := 5, ground := Ground.chain }, { on := 0, ground := Ground.phase }, { on := 1, ground := Ground.phase }, { on := 2, ground := Ground.phase }, { on := 3, ground := Ground.phase }, { on := 4, ground := Ground.phase }, { on := 5, ground := Ground.phase }], guard := none } : Oper)) rfl (fun K hK => ?_) AllReadyH.nil
                  go_simp
                  refine hK.out _ _ (s5) (fun hHeld => ?_)
                  clear hK K
                  try simp only [Act.put, List.setIfInBounds_toArray, List.set_cons_zero, List.set_cons_succ]
                  refine wpAnyH_done (by kernel_rfl) ?_ _
                  clear hHeld s4 s5 f4 z4 hs3 hs4 y3 y4 hbs x69
                  go_wp2_with fail
                  go_roundw
                  case rel => exact ⟨k + 1, by have := HLT.out; omega, by first | rfl | (rw [wk]) | simp, Lib.hid ⟨_, HO4.out⟩⟩
                  case measure => exact meas_m HLT.out (by first | exact wk | simp)
                focus
                  go_simp
                  refine hK.out _ _ (hs4) (fun hHeld => ?_)
                  clear hK K
                  try simp only [Act.put, List.setIfInBounds_toArray, List.set_cons_zero, List.set_cons_succ]
                  refine wpAnyH_ready (rs := [1]) (by kernel_rfl) (by simp) ?_
                  refine AllReadyH.cons (o := ({ dst := some 66, op := Op.load 42 (Operand.tmp 65), type := 42, pos := "law.go:29", after := #[{ on := 0, ground := Ground.data }], guard := none } : Oper)) rfl (fun K hK => ?_) AllReadyH.nil
                  go_simp
                  refine hK.out _ _ (hs4) (fun hHeld => ?_)
                  clear hK K
                  try simp only [Act.put, List.setIfInBounds_toArray, List.set_cons_zero, List.set_cons_succ]
                  refine wpAnyH_ready (rs := [5]) (by kernel_rfl) (by simp) ?_
                  refine AllReadyH.cons (o := ({ dst := some 70, op := Op.call { callee := Callee.builtin Builtin.append, args := #[Operand.tmp 66, Operand.tmp 69], argTypes := #[42, 42] }, type := 42, pos := "law.go:29", after := #[{ on := 1, ground := Ground.data }, { on := 4, ground := Ground.data }, { on := 3, ground := Ground.chain }], guard := none } : Oper)) rfl (fun K hK => ?_) AllReadyH.nil
                  refine Kd.R_append_step kEr (W := w3) (w0 := w) w.heap.size (by rfl) (.tmp 66) (.tmp 69) 42 77 (.agg #[.string ⟨#[]⟩, .int .i64 0, .int .i64 0, .slice none 0 0]) 56 (by rfl) Try.underlying42 infoE3 (by rfl) (by decide) (by decide) (.slice A1 m1 cc1) (m.ents.take k) (rdE m.ents (k : Int)) [.string sT, .int .i64 cnt, .int .i64 idx, .slice A3 np c3] (fun _ => True) (fun q => some q ≠ (Value.slice A1 m1 cc1).ownBlock) (by rfl) (by rfl) HM3.out (fun _ h => ⟨trivial, h⟩) (fun _ _ => trivial) HO3.out.re HO3.out.bel HO3.out.bel.size HTL.out ?_
                  intro v4 w4 ho hb hg hat
                  rw [← HTK.out] at ho
                  obtain ⟨A4, n4, c4, rfl, f4, z4, hO4⟩ := OSt.pushE HO3.out ho hb hg
                  have HO4 := Lib.hid hO4
                  have s4 := HSG.out w3 w4 _ HO3.out HB3.out hg
                  have s5 := HSF.out w4 (.slice A4 n4 c4) s4
                  clear ho hb hg hat hO4
                  refine hK.out _ _ (s4) (fun hHeld => ?_)
                  clear hK K
                  try simp only [Act.put, List.setIfInBounds_toArray, List.set_cons_zero, List.set_cons_succ]
                  refine wpAnyH_take (i := 6) (oi := ({ dst := some 71, op := Op.fieldAddr 44 (Operand.tmp 3) 7, type := 0, pos := "law.go:29", after := #[{ on := 0, ground := Ground.phase }, { on := 1, ground := Ground.phase }, { on := 2, ground := Ground.phase }, { on := 3, ground := Ground.phase }, { on := 4, ground := Ground.phase }, { on := 5, ground := Ground.phase }], guard := none } : Oper)) (v := .pointer (some ⟨bo, 69, none⟩)) rfl (by kernel_rfl) (by kernel_rfl) (by kernel_rfl) (fun _ _ _ h => h) (Or.inl ⟨by rfl, fun w hSw => by go_simp⟩) hHeld ?_
                  simp only [Act.put, List.setIfInBounds_toArray, List.set_cons_zero, List.set_cons_succ]
                  refine wpAnyH_ready (rs := [7]) (by kernel_rfl) (by simp) ?_
                  refine AllReadyH.cons (o := ({ dst := none, op := Op.store 42 (Operand.tmp 71) (Operand.tmp 70), type := 0, pos := "law.go:29", after := #[{ on := 6, ground := Ground.data }, { on := 5, ground := Ground.data }, { on := 5, ground := Ground.chain }, { on := 0, ground := Ground.phase }, { on := 1, ground := Ground.phase }, { on := 2, ground := Ground.phase }, { on := 3, ground := Ground.phase }, { on := 4, ground := Ground.phase }, { on := 5, ground := Ground.phase }], guard := none } : Oper)) rfl (fun K hK => ?_) AllReadyH.nil
                  go_simp
                  refine hK.out _ _ (s5) (fun hHeld => ?_)
                  clear hK K
                  try simp only [Act.put, List.setIfInBounds_toArray, List.set_cons_zero, List.set_cons_succ]
                  refine wpAnyH_done (by kernel_rfl) ?_ _
                  clear hHeld s4 s5 f4 z4 hs3 hs4 y3 y4 hbs x69
                  go_wp2_with fail
                  go_roundw
                  case rel => exact ⟨k + 1, by have := HLT.out; omega, by first | rfl | (rw [wk]) | simp, Lib.hid ⟨_, HO4.out⟩⟩
                  case measure => exact meas_m HLT.out (by first | exact wk | simp)
            · have hkn : k = n3 := by omega
              have hg : decide ((k : Int) < (n3 : Int)) = false := decide_eq_false (by omega)
              have hg2 : (k < n3) = False := eq_false (by omega)
              rw [hkn] at hO
              have hO2 : OSt Z (w.heap.size + 1) w wr w.heap.size bo a m lv hv ev m.loc.length m.heads.length m.ents.length := by rw [HN1.out, HN2.out, HN3.out]; exact hO
              have hOC := ocells_len lv hv ev m hO.box.s32 hO.box.b32
              obtain ⟨⟨Al, nl, cl, hl⟩, ⟨Ahh, nh, ch, hh⟩, ⟨Aee, ne, ce, he⟩⟩ := hO.shapes
              have hone := all_oneCell_toArray (ocells_one lv hv ev m (by rw [hl]; rfl) (by rw [hh]; rfl) (by rw [he]; rfl))
              obtain ⟨ra, hra, hrc⟩ := hO2.done (ocells lv hv ev m).toArray
              have HRV := Lib.hid (show (Value.agg (ocells lv hv ev m).toArray) = rmV ra m by rw [hra]; rfl)
              have HOB := Lib.hid hO.blk
              have HZB := Lib.hid hO.zb
              have HZSZ : Z.size = (ocells lv hv ev m).toArray.size := by rw [HOZ2.out]; simpa using hOC.symm
              have hsz : (Try.prog.info? 44).map (·.size) = some (ocells lv hv ev m).toArray.size := by rw [(zero_of_info infoRM).2]; simpa using hOC.symm
              obtain ⟨OC, hOCC⟩ : ∃ O, (ocells lv hv ev m).toArray = O := ⟨_, rfl⟩
              rw [hOCC] at HRV hrc HOB HZSZ hsz hone
              have HRC := Lib.hid hrc
              have HSZF := Lib.hid (And.intro hsz (And.intro HZSZ hone))
              have HUM := Lib.hid Try.underlying44
              have HBW := Lib.hid (below_setRow hO.bel (show w.heap.size ≤ w.heap.size + 1 by omega) OC)
              clear hO hO2 hOC hl hh he hone hra hrc HZSZ hsz hOCC H hlt hk hkn
              go_wp2_with (first
                | ((with_reducible show wpList _ _ _ (Oper.mk _ (Op.load 44 (.tmp 3)) _ _ _ _ :: _) _ _); (go_loud (refine wpList_load_row rfl 44 (.tmp 3) rfl bo rfl 44 OC (0, 0) _ HOB.out HUM.out rfl HSZF.out.1 ?_)))
                | ((with_reducible show wpList _ _ _ (Oper.mk _ (Op.store _ (.tmp 2) _) _ _ _ _ :: _) _ _); (go_loud (refine wpList_store_row rfl 44 (.tmp 2) (.tmp 73) rfl (w.heap.size + 1) OC rfl rfl 44 Z HZB.out HSZF.out.1 HSZF.out.2.1 HSZF.out.2.2 ?_))))
              exact bodyPost_ret (results_cell_row rfl _ _ (w.heap.size + 1) 44 OC (0, 0) _ rfl (setRow_heap _ _ _ _ _ _ HZB.out) HUM.out rfl HSZF.out.1) rfl ⟨ra, by rw [HRV.out], HRC.out, HBW.out⟩
end Go.Proofs.Ytfcmdhimlfoofaa.Hand


/- The document's bytes of a field: walked, field by field. -/
namespace Go.Proofs.Ytfcmdhimlfoofaa.Hand
open Go Go.RowKit Go.Proofs.Ytfcmdhimlfoofaa.Plain Go.Proofs.Ytfcmdhimlfoofaa.PAll Go.Proofs.YtfcmdhimlfoofaaW.PrintWords Go.Proofs.YtfcmdhimlfoofaaW.PrintLast Go.Proofs.YtfcmdhimlfoofaaW.PrintMore
set_option linter.unusedVariables false
set_option linter.unusedSimpArgs false
set_option maxRecDepth 100000
attribute [local go_sem ↓] Go.wp_at_zero Go.wp_at_succ
set_option maxHeartbeats 4000000 in
theorem rput_loc (a : RA) (m : MT) (w : World) (hm : RC w a m) (hwf : MWf m) (hfit : fitM m 0 = true) :
    Calls Try.prog 27 #[rmV a m, .int .u8 108] w fun e w' => e = .returned (.string (strOfNums (putB m 0))) ∧ Below w.heap.size w w' := by
  obtain ⟨c0, c1, c34, c67, c68, c69, c70, c71, c72⟩ := rcells_at a m hwf.stop.1 hwf.block.1
  have HBF := Lib.hid (below_alloc (Below.refl w.heap.size w) (.cells (rcells a m).toArray 44))
  have hbox : RBox (w.alloc (.cells (rcells a m).toArray 44)) w.heap.size a m := ⟨by simpa using heap_alloc_new w _, hwf.stop.1, hwf.block.1⟩
  have HM := Lib.hid hm
  have HWF := Lib.hid hwf
  have hfit' : m.loc.length ≤ 64 := by exact of_decide_eq_true hfit
  have HFIT := Lib.hid hfit'
  unfold rmV
  obtain ⟨C, hC⟩ : ∃ C, (rcells a m).toArray = C := ⟨_, rfl⟩
  rw [hC] at c0 c1 c34 c67 c68 c69 c70 c71 c72 HBF hbox ⊢
  obtain ⟨n, hn⟩ : ∃ n, m.loc.length = n := ⟨_, rfl⟩
  have HN := Lib.hid hn
  have HRL := Lib.hid (show Kd.C kH (w.alloc (.cells C 44)) a.la n m.loc by rw [← hn]; exact (hm.below HBF.out).loc)
  rw [hn] at c1
  have e : putB m 0 = hashesB m.loc := rfl
  rw [e]
  clear hm hwf hfit hfit' hn e hC hbox
  go_enter Try.func27, Try.ntmps27
  go_wp2_with fail
  with_reducible refine (rhashes_calls a.la n a.lc m.loc _ HN.out.symm HRL.out (fun p hp => (HWF.out.loc p hp).1) (by have := HFIT.out; have := HN.out; omega)).mono ?_
  rintro e w1 ⟨rfl, hb⟩
  have HB1 := Lib.hid (HBF.out.trans (Below.mono hb HBF.out.size))
  clear hb
  go_wp2
  go_ret
  exact ⟨rfl, HB1.out⟩
set_option maxHeartbeats 4000000 in
theorem rput_stop (a : RA) (m : MT) (w : World) (hm : RC w a m) (hwf : MWf m) (hfit : fitM m 1 = true) :
    Calls Try.prog 27 #[rmV a m, .int .u8 115] w fun e w' => e = .returned (.string (strOfNums (putB m 1))) ∧ Below w.heap.size w w' := by
  obtain ⟨c0, c1, c34, c67, c68, c69, c70, c71, c72⟩ := rcells_at a m hwf.stop.1 hwf.block.1
  have HBF := Lib.hid (below_alloc (Below.refl w.heap.size w) (.cells (rcells a m).toArray 44))
  have hbox : RBox (w.alloc (.cells (rcells a m).toArray 44)) w.heap.size a m := ⟨by simpa using heap_alloc_new w _, hwf.stop.1, hwf.block.1⟩
  have HM := Lib.hid hm
  have HWF := Lib.hid hwf
  have hfit' : True := by trivial
  have HFIT := Lib.hid hfit'
  unfold rmV
  obtain ⟨C, hC⟩ : ∃ C, (rcells a m).toArray = C := ⟨_, rfl⟩
  rw [hC] at c0 c1 c34 c67 c68 c69 c70 c71 c72 HBF hbox ⊢
  have hs : m.stop.length = 32 := hwf.stop.1
  have hcv : (convert 23 9 (.slice (some ⟨w.heap.size, 2, none⟩) 32 32)).run Try.prog (w.alloc (.cells C 44)) = .ok (.string (strOfNums m.stop)) (w.alloc (.cells C 44)) := by
    have hC2 := C_of_range hbox.stop (by omega)
    rw [hs] at hC2
    exact Kd.C_string (P := Try.prog) (src := 23) (dst := 9) (c := 32) Try.underlying23 Try.underlying5 Try.underlying9 hC2
  have e : putB m 1 = m.stop := rfl
  rw [e]
  obtain ⟨sp, hsp⟩ : ∃ x, strOfNums m.stop = x := ⟨_, rfl⟩
  rw [hsp] at hcv ⊢
  clear hm hwf hfit hfit' hC hbox hs hsp e
  go_enter Try.func27, Try.ntmps27
  go_wp2_with fail
  go_ret
  exact ⟨rfl, HBF.out⟩
set_option maxHeartbeats 4000000 in
theorem rput_block (a : RA) (m : MT) (w : World) (hm : RC w a m) (hwf : MWf m) (hfit : fitM m 4 = true) :
    Calls Try.prog 27 #[rmV a m, .int .u8 98] w fun e w' => e = .returned (.string (strOfNums (putB m 4))) ∧ Below w.heap.size w w' := by
  obtain ⟨c0, c1, c34, c67, c68, c69, c70, c71, c72⟩ := rcells_at a m hwf.stop.1 hwf.block.1
  have HBF := Lib.hid (below_alloc (Below.refl w.heap.size w) (.cells (rcells a m).toArray 44))
  have hbox : RBox (w.alloc (.cells (rcells a m).toArray 44)) w.heap.size a m := ⟨by simpa using heap_alloc_new w _, hwf.stop.1, hwf.block.1⟩
  have HM := Lib.hid hm
  have HWF := Lib.hid hwf
  have hfit' : True := by trivial
  have HFIT := Lib.hid hfit'
  unfold rmV
  obtain ⟨C, hC⟩ : ∃ C, (rcells a m).toArray = C := ⟨_, rfl⟩
  rw [hC] at c0 c1 c34 c67 c68 c69 c70 c71 c72 HBF hbox ⊢
  have hs : m.block.length = 32 := hwf.block.1
  have hcv : (convert 23 9 (.slice (some ⟨w.heap.size, 35, none⟩) 32 32)).run Try.prog (w.alloc (.cells C 44)) = .ok (.string (strOfNums m.block)) (w.alloc (.cells C 44)) := by
    have hC2 := C_of_range hbox.block (by omega)
    rw [hs] at hC2
    exact Kd.C_string (P := Try.prog) (src := 23) (dst := 9) (c := 32) Try.underlying23 Try.underlying5 Try.underlying9 hC2
  have e : putB m 4 = m.block := rfl
  rw [e]
  obtain ⟨sp, hsp⟩ : ∃ x, strOfNums m.block = x := ⟨_, rfl⟩
  rw [hsp] at hcv ⊢
  clear hm hwf hfit hfit' hC hbox hs hsp e
  go_enter Try.func27, Try.ntmps27
  go_wp2_with fail
  go_ret
  exact ⟨rfl, HBF.out⟩
set_option maxHeartbeats 4000000 in
theorem rput_of (a : RA) (m : MT) (w : World) (hm : RC w a m) (hwf : MWf m) (hfit : fitM m 3 = true) :
    Calls Try.prog 27 #[rmV a m, .int .u8 111] w fun e w' => e = .returned (.string (strOfNums (putB m 3))) ∧ Below w.heap.size w w' := by
  obtain ⟨c0, c1, c34, c67, c68, c69, c70, c71, c72⟩ := rcells_at a m hwf.stop.1 hwf.block.1
  have HBF := Lib.hid (below_alloc (Below.refl w.heap.size w) (.cells (rcells a m).toArray 44))
  have hbox : RBox (w.alloc (.cells (rcells a m).toArray 44)) w.heap.size a m := ⟨by simpa using heap_alloc_new w _, hwf.stop.1, hwf.block.1⟩
  have HM := Lib.hid hm
  have HWF := Lib.hid hwf
  have hfit' : 0 ≤ m.of_ ∧ m.of_ ≤ 255 := by exact of_decide_eq_true hfit
  have HFIT := Lib.hid hfit'
  unfold rmV
  obtain ⟨C, hC⟩ : ∃ C, (rcells a m).toArray = C := ⟨_, rfl⟩
  rw [hC] at c0 c1 c34 c67 c68 c69 c70 c71 c72 HBF hbox ⊢
  have hu : IntKind.u64.wrap m.of_ = m.of_ := u64w_id hfit'.1 (by omega)
  have hmod : m.of_ % 18446744073709551616 = m.of_ := by omega
  have e : putB m 3 = digs (wid 1) m.of_.toNat := rfl
  rw [e]
  obtain ⟨x, hx⟩ : ∃ x, m.of_ = x := ⟨_, rfl⟩
  rw [hx] at c71 hu hmod hfit' HFIT ⊢
  clear hm hwf hfit hfit' hC hbox hx e
  go_enter Try.func27, Try.ntmps27
  go_wp2_with fail
  with_reducible refine (rnum_calls x 1 HFIT.out.1 (by have := HFIT.out.2; omega) _).mono ?_
  rintro e w1 ⟨rfl, hb⟩
  have HB1 := Lib.hid (HBF.out.trans (Below.mono hb HBF.out.size))
  clear hb
  go_wp2
  go_ret
  exact ⟨rfl, HB1.out⟩
set_option maxHeartbeats 4000000 in
theorem rput_code (a : RA) (m : MT) (w : World) (hm : RC w a m) (hwf : MWf m) (hfit : fitM m 9 = true) :
    Calls Try.prog 27 #[rmV a m, .int .u8 99] w fun e w' => e = .returned (.string (strOfNums (putB m 9))) ∧ Below w.heap.size w w' := by
  obtain ⟨c0, c1, c34, c67, c68, c69, c70, c71, c72⟩ := rcells_at a m hwf.stop.1 hwf.block.1
  have HBF := Lib.hid (below_alloc (Below.refl w.heap.size w) (.cells (rcells a m).toArray 44))
  have hbox : RBox (w.alloc (.cells (rcells a m).toArray 44)) w.heap.size a m := ⟨by simpa using heap_alloc_new w _, hwf.stop.1, hwf.block.1⟩
  have HM := Lib.hid hm
  have HWF := Lib.hid hwf
  have hfit' : 0 ≤ m.code ∧ m.code ≤ 255 := by exact of_decide_eq_true hfit
  have HFIT := Lib.hid hfit'
  unfold rmV
  obtain ⟨C, hC⟩ : ∃ C, (rcells a m).toArray = C := ⟨_, rfl⟩
  rw [hC] at c0 c1 c34 c67 c68 c69 c70 c71 c72 HBF hbox ⊢
  have hu : IntKind.u64.wrap m.code = m.code := u64w_id hfit'.1 (by omega)
  have hmod : m.code % 18446744073709551616 = m.code := by omega
  have e : putB m 9 = digs (wid 1) m.code.toNat := rfl
  rw [e]
  obtain ⟨x, hx⟩ : ∃ x, m.code = x := ⟨_, rfl⟩
  rw [hx] at c72 hu hmod hfit' HFIT ⊢
  clear hm hwf hfit hfit' hC hbox hx e
  go_enter Try.func27, Try.ntmps27
  go_wp2_with fail
  with_reducible refine (rnum_calls x 1 HFIT.out.1 (by have := HFIT.out.2; omega) _).mono ?_
  rintro e w1 ⟨rfl, hb⟩
  have HB1 := Lib.hid (HBF.out.trans (Below.mono hb HBF.out.size))
  clear hb
  go_wp2
  go_ret
  exact ⟨rfl, HB1.out⟩
set_option maxHeartbeats 4000000 in
theorem rput_data (a : RA) (m : MT) (w : World) (hm : RC w a m) (hwf : MWf m) (hfit : fitM m 5 = true) :
    Calls Try.prog 27 #[rmV a m, .int .u8 100] w fun e w' => e = .returned (.string (strOfNums (putB m 5))) ∧ Below w.heap.size w w' := by
  obtain ⟨c0, c1, c34, c67, c68, c69, c70, c71, c72⟩ := rcells_at a m hwf.stop.1 hwf.block.1
  have HBF := Lib.hid (below_alloc (Below.refl w.heap.size w) (.cells (rcells a m).toArray 44))
  have hbox : RBox (w.alloc (.cells (rcells a m).toArray 44)) w.heap.size a m := ⟨by simpa using heap_alloc_new w _, hwf.stop.1, hwf.block.1⟩
  have HM := Lib.hid hm
  have HWF := Lib.hid hwf
  have hfit' : m.data.length ≤ 2048 := by exact of_decide_eq_true hfit
  have HFIT := Lib.hid hfit'
  unfold rmV
  obtain ⟨C, hC⟩ : ∃ C, (rcells a m).toArray = C := ⟨_, rfl⟩
  rw [hC] at c0 c1 c34 c67 c68 c69 c70 c71 c72 HBF hbox ⊢
  have hz : (strOfNums m.data).size = m.data.length := strOfNums_size _
  have e : putB m 5 = varB m.data.length ++ m.data := rfl
  rw [e, str_append, ← hz]
  obtain ⟨s, hs⟩ : ∃ s, strOfNums m.data = s := ⟨_, rfl⟩
  rw [hs] at c68 hz ⊢
  have HZ := Lib.hid (show s.size ≤ 1000000 by omega)
  clear hm hwf hfit hfit' hC hbox hs e hz
  go_enter Try.func27, Try.ntmps27
  go_wp2_with fail
  with_reducible refine (rtext_calls s HZ.out _).mono ?_
  rintro e w1 ⟨rfl, hb⟩
  have HB1 := Lib.hid (HBF.out.trans (Below.mono hb HBF.out.size))
  clear hb
  go_wp2
  go_ret
  exact ⟨rfl, HB1.out⟩
set_option maxHeartbeats 4000000 in
theorem rput_item (a : RA) (m : MT) (w : World) (hm : RC w a m) (hwf : MWf m) (hfit : fitM m 6 = true) :
    Calls Try.prog 27 #[rmV a m, .int .u8 105] w fun e w' => e = .returned (.string (strOfNums (putB m 6))) ∧ Below w.heap.size w w' := by
  obtain ⟨c0, c1, c34, c67, c68, c69, c70, c71, c72⟩ := rcells_at a m hwf.stop.1 hwf.block.1
  have HBF := Lib.hid (below_alloc (Below.refl w.heap.size w) (.cells (rcells a m).toArray 44))
  have hbox : RBox (w.alloc (.cells (rcells a m).toArray 44)) w.heap.size a m := ⟨by simpa using heap_alloc_new w _, hwf.stop.1, hwf.block.1⟩
  have HM := Lib.hid hm
  have HWF := Lib.hid hwf
  have hfit' : m.item.length ≤ 64 := by exact of_decide_eq_true hfit
  have HFIT := Lib.hid hfit'
  unfold rmV
  obtain ⟨C, hC⟩ : ∃ C, (rcells a m).toArray = C := ⟨_, rfl⟩
  rw [hC] at c0 c1 c34 c67 c68 c69 c70 c71 c72 HBF hbox ⊢
  have hz : (strOfNums m.item).size = m.item.length := strOfNums_size _
  have e : putB m 6 = varB m.item.length ++ m.item := rfl
  rw [e, str_append, ← hz]
  obtain ⟨s, hs⟩ : ∃ s, strOfNums m.item = s := ⟨_, rfl⟩
  rw [hs] at c67 hz ⊢
  have HZ := Lib.hid (show s.size ≤ 1000000 by omega)
  clear hm hwf hfit hfit' hC hbox hs e hz
  go_enter Try.func27, Try.ntmps27
  go_wp2_with fail
  with_reducible refine (rtext_calls s HZ.out _).mono ?_
  rintro e w1 ⟨rfl, hb⟩
  have HB1 := Lib.hid (HBF.out.trans (Below.mono hb HBF.out.size))
  clear hb
  go_wp2
  go_ret
  exact ⟨rfl, HB1.out⟩
set_option maxHeartbeats 4000000 in
theorem rput_nonce (a : RA) (m : MT) (w : World) (hm : RC w a m) (hwf : MWf m) (hfit : fitM m 8 = true) :
    Calls Try.prog 27 #[rmV a m, .int .u8 110] w fun e w' => e = .returned (.string (strOfNums (putB m 8))) ∧ Below w.heap.size w w' := by
  obtain ⟨c0, c1, c34, c67, c68, c69, c70, c71, c72⟩ := rcells_at a m hwf.stop.1 hwf.block.1
  have HBF := Lib.hid (below_alloc (Below.refl w.heap.size w) (.cells (rcells a m).toArray 44))
  have hbox : RBox (w.alloc (.cells (rcells a m).toArray 44)) w.heap.size a m := ⟨by simpa using heap_alloc_new w _, hwf.stop.1, hwf.block.1⟩
  have HM := Lib.hid hm
  have HWF := Lib.hid hwf
  have hfit' : 0 ≤ m.nonce ∧ m.nonce < 18446744073709551616 := by exact hwf.nonce
  have HFIT := Lib.hid hfit'
  unfold rmV
  obtain ⟨C, hC⟩ : ∃ C, (rcells a m).toArray = C := ⟨_, rfl⟩
  rw [hC] at c0 c1 c34 c67 c68 c69 c70 c71 c72 HBF hbox ⊢
  have e : putB m 8 = digs (wid 8) m.nonce.toNat := rfl
  rw [e]
  obtain ⟨x, hx⟩ : ∃ x, m.nonce = x := ⟨_, rfl⟩
  rw [hx] at c70 hfit' HFIT ⊢
  clear hm hwf hfit hfit' hC hbox hx e
  go_enter Try.func27, Try.ntmps27
  go_wp2_with fail
  with_reducible refine (rnum_calls x 8 HFIT.out.1 HFIT.out.2 _).mono ?_
  rintro e w1 ⟨rfl, hb⟩
  have HB1 := Lib.hid (HBF.out.trans (Below.mono hb HBF.out.size))
  clear hb
  go_wp2
  go_ret
  exact ⟨rfl, HB1.out⟩
end Go.Proofs.Ytfcmdhimlfoofaa.Hand


/- The document's bytes of the headers, and of the entries: walked; and of any field. -/
namespace Go.Proofs.Ytfcmdhimlfoofaa.Hand
open Go Go.RowKit Go.Proofs.Ytfcmdhimlfoofaa.Plain Go.Proofs.Ytfcmdhimlfoofaa.PAll Go.Proofs.YtfcmdhimlfoofaaW.PrintWords Go.Proofs.YtfcmdhimlfoofaaW.PrintLast Go.Proofs.YtfcmdhimlfoofaaW.PrintMore
set_option linter.unusedVariables false
set_option linter.unusedSimpArgs false
set_option maxRecDepth 100000
attribute [local go_sem ↓] Go.wp_at_zero Go.wp_at_succ
set_option maxHeartbeats 4000000 in
theorem rput_heads (a : RA) (m : MT) (w : World) (hm : RC w a m) (hwf : MWf m) (hfit : fitM m 2 = true) :
    Calls Try.prog 27 #[rmV a m, .int .u8 104] w fun e w' => e = .returned (.string (strOfNums (putB m 2))) ∧ Below w.heap.size w w' := by
  obtain ⟨c0, c1, c34, c67, c68, c69, c70, c71, c72⟩ := rcells_at a m hwf.stop.1 hwf.block.1
  have HBF := Lib.hid (below_alloc (Below.refl w.heap.size w) (.cells (rcells a m).toArray 44))
  have hfit' : m.heads.length ≤ 2000 := of_decide_eq_true hfit
  have HOKS := Lib.hid hwf.heads
  have HR := Lib.hid hm.heads
  have e : putB m 2 = varB m.heads.length ++ m.heads.flatMap hdB := rfl
  rw [e]
  unfold rmV
  have hC34 : ∀ W : World, Below w.heap.size.succ (w.alloc (.cells (rcells a m).toArray 44)) W → W.cell? ⟨w.heap.size, 34, none⟩ = some (.slice a.ha m.heads.length a.hc) := fun W hb => by
    have h0 : (w.alloc (.cells (rcells a m).toArray 44)).heap[w.heap.size]? = some (.cells (rcells a m).toArray 44 (0, 0)) := by simpa using heap_alloc_new w _
    have h1 := (hb.block w.heap.size (Nat.lt_succ_self _)).trans h0
    exact (blk_cell h1 34).trans c34
  obtain ⟨C, hC⟩ : ∃ C, (rcells a m).toArray = C := ⟨_, rfl⟩
  rw [hC] at c0 c1 c34 c67 c68 c69 c70 c71 c72 HBF hC34 ⊢
  obtain ⟨xs, hxs⟩ : ∃ xs, m.heads = xs := ⟨_, rfl⟩
  rw [hxs] at hfit' HR HOKS c34 hC34 ⊢
  obtain ⟨n, hn⟩ : ∃ n, xs.length = n := ⟨_, rfl⟩
  have HN := Lib.hid hn.symm
  rw [hn] at hfit' HR c34 hC34 ⊢
  have HN2 := Lib.hid hfit'
  have hu : IntKind.u64.wrap (n : Int) = (n : Int) := u64w_id (by omega) (by omega)
  obtain ⟨A, hA⟩ : ∃ A, a.ha = A := ⟨_, rfl⟩
  obtain ⟨c, hc⟩ : ∃ c, a.hc = c := ⟨_, rfl⟩
  rw [hA, hc] at c34
  rw [hA, hc] at hC34
  rw [hA] at HR
  have HC34 := Lib.hid hC34
  have hz := (zero_of_info infoR).1
  obtain ⟨Z, hZ⟩ : ∃ Z, (hcells 0 z32 z32 0 0 0).toArray = Z := ⟨_, rfl⟩
  rw [hZ] at hz
  have HZS := Lib.hid (show Z.size = 68 by rw [← hZ]; simp; rw [hcells_len _ _ _ _ _ _ (by decide) (by decide)])
  have HU := Lib.hid Try.underlying72
  clear hm hwf hfit hfit' hxs hn e hA hc c0 c1 c67 c68 c69 c70 c71 c72 hC34 hC hZ
  go_enter Try.func27, Try.ntmps27
  go_wp2_with fail
  with_reducible refine (rvar_calls (n : Int) (by omega) (by have := HN2.out; omega) _).mono ?_
  rintro e w1 ⟨rfl, hb⟩
  rw [Int.toNat_natCast]
  have c34' := HC34.out w1 (Below.mono hb (by simp))
  have HB1 := Lib.hid (HBF.out.trans (Below.mono hb HBF.out.size))
  clear hb hu c34
  go_wp2_with fail
  clear c34'
  go_loopw [5, 32] (fun v i wr => ∃ k : Int, 0 ≤ k ∧ k ≤ (n : Int) ∧ i = .int .i64 k ∧ ∃ s, v = .string s ∧ Hid (s = strOfNums (varB n ++ (xs.take k.toNat).flatMap hdB) ∧ Below w.heap.size w wr)) (fun _ i _ => ((n : Int) - intOf i).toNat)
  case atStart => exact ⟨0, by omega, by omega, rfl, _, rfl, Lib.hid ⟨by simp, HB1.out⟩⟩
  case round =>
    obtain ⟨k, hk0, hkn, rfl, s, rfl, H⟩ := hrel
    by_cases hlt : k < (n : Int)
    · obtain ⟨hs, hb⟩ := H.out
      have hcr := Kd.C_below HR.out hb
      rw [HN.out] at hcr
      obtain ⟨b, o, rfl, hbl, hat⟩ := C_heads hcr (by have := HN.out; omega)
      have hkx : k < (xs.length : Int) := by have := HN.out; omega
      obtain ⟨hrg, hp32, hr32⟩ := hat k.toNat (by omega)
      have HTK := Lib.hid (takeHd hk0 hkx)
      have hok : HOk (rdHd xs k.toNat) := by rw [rdHd_eq (by omega)]; exact HOKS.out _ (List.getElem_mem _)
      have hlen := hds_len (l := xs.take k.toNat) (fun x hx => HOKS.out x (List.mem_of_mem_take hx))
      have hlen2 : (xs.take k.toNat).length ≤ n := by rw [List.length_take]; have := HN.out; omega
      obtain ⟨⟨v, p, r, t, bb, nn⟩, hx⟩ : ∃ x, rdHd xs k.toNat = x := ⟨_, rfl⟩
      rw [hx] at hrg hp32 hr32 HTK hok
      simp only at hp32 hr32
      have HOK := Lib.hid hok
      have HRG := Lib.hid (show wr.rangeAt b (o + k.toNat * 68) (hcells v p r t bb nn) from hrg)
      obtain ⟨C', hC⟩ : ∃ C, (hcells v p r t bb nn) = C := ⟨_, rfl⟩
      have HHV := Lib.hid (show hV v p r t bb nn = .agg C'.toArray by rw [hV, hC])
      rw [hC] at HRG
      have hcl : C'.length = 68 := by rw [← hC]; exact hcells_len _ _ _ _ _ _ hp32 hr32
      have HSZ := Lib.hid (show (Try.prog.info? 72).map (·.size) = some C'.length by rw [hcl]; exact (zero_of_info infoR).2)
      have HONE := Lib.hid (show C'.toArray.all (·.oneCell') = true by rw [← hC]; exact all_oneCell_toArray (hcells_one1 v p r t bb nn))
      obtain ⟨CA, hCA⟩ : ∃ CA, C'.toArray = CA := ⟨_, rfl⟩
      have hcs : CA.size = 68 := by rw [← hCA]; simpa using hcl
      have HSZ2 := Lib.hid (show (Try.prog.info? 72).map (·.size) = some CA.size by rw [hcs]; exact (zero_of_info infoR).2)
      have HZS2 := Lib.hid (show Z.size = CA.size by rw [HZS.out, hcs])
      rw [hCA] at HONE HHV
      have HCA := Lib.hid hCA
      have HNEW := Lib.hid (show (wr.alloc (.cells CA 72)).heap[wr.heap.size]? = some (.cells CA 72 (0, 0)) by simpa using heap_alloc_new wr _)
      have HDB := Lib.hid (show headB v p r t bb nn = hdB ⟨v, p, r, t, bb, nn⟩ from rfl)
      have HDL := Lib.hid (hdB_len hok)
      have hsz : s.size ≤ 9 + 80 * n := by
        rw [hs, strOfNums_size]
        have := varB_length n
        simp only [List.length_append]
        omega
      have HSI := Lib.hid hsz
      have HS := Lib.hid (show s ++ strOfNums (hdB ⟨v, p, r, t, bb, nn⟩) = strOfNums (varB n ++ (xs.take (k + 1).toNat).flatMap hdB) by rw [HTK.out, ← List.append_assoc, str_append, hs])
      have wk : wrap64 (k + 1) = k + 1 := wrap64_id (by omega) (by have := HN2.out; omega)
      have HLT := Lib.hid hlt
      have HBA := Lib.hid (hb.alloc hb.size (.cells CA 72))
      clear hrg hp32 hr32 hok hC hcl hCA hcr hbl hat hx hs hb H hlen hlen2 hkx hcs hsz
      go_wp2_with (first
        | ((with_reducible show wpList _ _ _ (Oper.mk _ (Op.load 72 (.tmp 34)) _ _ _ _ :: _) _ _); (go_loud (refine wpList_load_mid rfl 72 (.tmp 34) rfl b (o + k.toNat * 68) rfl C' _ HRG.out HU.out rfl HSZ.out ?_)); rw [HCA.out])
        | ((with_reducible show wpList _ _ _ (Oper.mk _ (Op.store _ (.tmp 7) _) _ _ _ _ :: _) _ _); (go_loud (refine wpl_store_new rfl 72 (.tmp 7) (.tmp 35) rfl Z CA rfl rfl HSZ2.out HZS2.out HONE.out ?_)))
        | ((with_reducible show wpList _ _ _ (Oper.mk _ (Op.load 72 (.tmp 7)) _ _ _ _ :: _) _ _); (go_loud (refine wpList_load_row rfl 72 (.tmp 7) rfl wr.heap.size rfl 72 CA (0, 0) _ HNEW.out HU.out rfl HSZ2.out ?_))))
      rw [← HHV.out]
      have HQ := HOK.out
      refine (rbytes_calls v p r t bb nn _ HQ.p32 HQ.r32 HQ.v0 HQ.v1 HQ.t0 HQ.t1 HQ.b0 HQ.b1 HQ.n0 HQ.n1).mono ?_
      rintro e w2 ⟨rfl, hb2⟩
      rw [HDB.out]
      have HB2 := Lib.hid (HBA.out.trans (Below.mono hb2 HBA.out.size))
      have hts : (strOfNums (hdB ⟨v, p, r, t, bb, nn⟩)).size = 80 := by rw [strOfNums_size, HDL.out]
      obtain ⟨sp, hsp⟩ : ∃ x, strOfNums (hdB ⟨v, p, r, t, bb, nn⟩) = x := ⟨_, rfl⟩
      rw [hsp] at hts HS ⊢
      have f1 : (9223372036854775807 < s.size + 80) = False := eq_false (by have := HN2.out; have := HSI.out; omega)
      have f2 : (9223372036854775807 < s.size + sp.size) = False := eq_false (by have := HN2.out; have := HSI.out; omega)
      clear hb2 hsp HNEW
      go_wp2_with fail
      go_roundw
      case rel => exact ⟨k + 1, by omega, by have := HLT.out; omega, by rw [wk], _, rfl, Lib.hid ⟨HS.out, HB2.out⟩⟩
      case measure => exact meas_k HLT.out wk hk0
    · obtain ⟨hs, hb⟩ := H.out
      have hkx : k.toNat = xs.length := by have := HN.out; omega
      rw [hkx, List.take_length] at hs
      have HS := Lib.hid hs
      have HB := Lib.hid hb
      clear hs hb hkx H
      go_wp2_with fail
      go_ret
      exact ⟨by rw [← HS.out]; rfl, HB.out⟩
set_option maxHeartbeats 4000000 in
theorem rput_ents (a : RA) (m : MT) (w : World) (hm : RC w a m) (hwf : MWf m) (hfit : fitM m 7 = true) :
    Calls Try.prog 27 #[rmV a m, .int .u8 101] w fun e w' => e = .returned (.string (strOfNums (putB m 7))) ∧ Below w.heap.size w w' := by
  obtain ⟨c0, c1, c34, c67, c68, c69, c70, c71, c72⟩ := rcells_at a m hwf.stop.1 hwf.block.1
  have HBF := Lib.hid (below_alloc (Below.refl w.heap.size w) (.cells (rcells a m).toArray 44))
  simp only [fitM, Bool.and_eq_true, List.all_eq_true] at hfit
  have hfit' : m.ents.length ≤ 16 := of_decide_eq_true hfit.1
  have HF := Lib.hid hfit.2
  have H32 := Lib.hid (show ∀ x ∈ m.ents, ∀ p ∈ x.path, p.length = 32 from fun x hx p hp => ((hwf.ents x hx).2 p hp).1)
  have HR := Lib.hid hm.ents
  have e : putB m 7 = varB m.ents.length ++ m.ents.flatMap entB := rfl
  rw [e]
  unfold rmV
  have hC69 : ∀ W : World, Below w.heap.size.succ (w.alloc (.cells (rcells a m).toArray 44)) W → W.cell? ⟨w.heap.size, 69, none⟩ = some (.slice a.ea m.ents.length a.ec) := fun W hb => by
    have h0 : (w.alloc (.cells (rcells a m).toArray 44)).heap[w.heap.size]? = some (.cells (rcells a m).toArray 44 (0, 0)) := by simpa using heap_alloc_new w _
    have h1 := (hb.block w.heap.size (Nat.lt_succ_self _)).trans h0
    exact (blk_cell h1 69).trans c69
  obtain ⟨C, hC⟩ : ∃ C, (rcells a m).toArray = C := ⟨_, rfl⟩
  rw [hC] at c0 c1 c34 c67 c68 c69 c70 c71 c72 HBF hC69 ⊢
  obtain ⟨xs, hxs⟩ : ∃ xs, m.ents = xs := ⟨_, rfl⟩
  rw [hxs] at hfit' HR HF H32 c69 hC69 ⊢
  obtain ⟨n, hn⟩ : ∃ n, xs.length = n := ⟨_, rfl⟩
  have HN := Lib.hid hn.symm
  rw [hn] at hfit' HR c69 hC69 ⊢
  have HN2 := Lib.hid hfit'
  have hu : IntKind.u64.wrap (n : Int) = (n : Int) := u64w_id (by omega) (by omega)
  obtain ⟨A, hA⟩ : ∃ A, a.ea = A := ⟨_, rfl⟩
  obtain ⟨c, hc⟩ : ∃ c, a.ec = c := ⟨_, rfl⟩
  rw [hA, hc] at c69
  rw [hA, hc] at hC69
  rw [hA] at HR
  have HC69 := Lib.hid hC69
  clear hm hwf hfit hfit' hxs hn e hA hc c0 c1 c67 c68 c34 c70 c71 c72 hC69 hC
  go_enter Try.func27, Try.ntmps27
  go_wp2_with fail
  with_reducible refine (rvar_calls (n : Int) (by omega) (by have := HN2.out; omega) _).mono ?_
  rintro e w1 ⟨rfl, hb⟩
  rw [Int.toNat_natCast]
  have c69' := HC69.out w1 (Below.mono hb (by simp))
  have HB1 := Lib.hid (HBF.out.trans (Below.mono hb HBF.out.size))
  clear hb hu c69
  go_wp2_with fail
  clear c69'
  go_loopw [8, 67] (fun v i wr => ∃ k : Int, 0 ≤ k ∧ k ≤ (n : Int) ∧ i = .int .i64 k ∧ ∃ s, v = .string s ∧ Hid (s = strOfNums (varB n ++ (xs.take k.toNat).flatMap entB) ∧ Below w.heap.size w wr)) (fun _ i _ => ((n : Int) - intOf i).toNat)
  case atStart => exact ⟨0, by omega, by omega, rfl, _, rfl, Lib.hid ⟨by simp, HB1.out⟩⟩
  case round =>
    obtain ⟨k, hk0, hkn, rfl, s, rfl, H⟩ := hrel
    by_cases hlt : k < (n : Int)
    · obtain ⟨hs, hb⟩ := H.out
      have hkx : k < (xs.length : Int) := by have := HN.out; omega
      obtain ⟨ad, A2, c2, rfl, x0, x1, x2, x3, l2, C2⟩ := at_Er (Kd.C_below HR.out hb) k hk0 hlt
      have HTK := Lib.hid (takeEB hk0 hkx)
      have hfe := HF.out _ (rdE_mem hk0 hkx)
      have h32 := H32.out _ (rdE_mem hk0 hkx)
      have hlen := ents_len (l := xs.take k.toNat) (fun x hx => HF.out x (List.mem_of_mem_take hx)) (fun x hx => H32.out x (List.mem_of_mem_take hx))
      have hlen2 : (xs.take k.toNat).length ≤ n := by rw [List.length_take]; have := HN.out; omega
      obtain ⟨⟨tx, cnt, idx, path⟩, hx⟩ : ∃ x, rdE xs k = x := ⟨_, rfl⟩
      rw [hx] at x0 x1 x2 x3 l2 C2 HTK hfe h32
      simp only at x0 x1 x2 x3 l2 C2 h32
      obtain ⟨f1, f2, f3, f4, f5, f6⟩ := of_decide_eq_true hfe
      simp only at f1 f2 f3 f4 f5 f6
      have zt := strOfNums_size tx
      have hT1 : strOfNums (textB tx) = strOfNums (varB (strOfNums tx).size) ++ strOfNums tx := by rw [zt, textB, str_append]
      have HT := Lib.hid (fun W => rtext_calls (strOfNums tx) (by omega) W)
      rw [← hT1] at HT
      have HV1 := Lib.hid (fun W => rvar_calls cnt f2 (by omega) W)
      have HV2 := Lib.hid (fun W => rvar_calls idx f4 (by omega) W)
      have HH := Lib.hid (fun (W : World) (hW : Below wr.heap.size wr W) => rhashes_calls A2 path.length c2 path W rfl (Kd.C_below C2 hW) h32 (by omega))
      have hsz1 : (strOfNums (textB tx)).size ≤ 709 := by
        rw [strOfNums_size]
        have := varB_length tx.length
        simp only [textB, List.length_append]
        omega
      have hsz2 : (strOfNums (varB cnt.toNat)).size ≤ 9 := by rw [strOfNums_size]; exact varB_length _
      have hsz3 : (strOfNums (varB idx.toNat)).size ≤ 9 := by rw [strOfNums_size]; exact varB_length _
      have hsz4 : (strOfNums (hashesB path)).size ≤ 521 := by
        rw [strOfNums_size]
        have := varB_length path.length
        have := flat32_len path h32
        simp only [hashesB, List.length_append]
        omega
      have hsz : s.size ≤ 9 + 1248 * n := by
        rw [hs, strOfNums_size]
        have := varB_length n
        simp only [List.length_append]
        omega
      have hsum : s ++ (((strOfNums (textB tx) ++ strOfNums (varB cnt.toNat)) ++ strOfNums (varB idx.toNat)) ++ strOfNums (hashesB path)) = strOfNums (varB n ++ (xs.take (k + 1).toNat).flatMap entB) := by
        rw [HTK.out, ← List.append_assoc, str_append, hs]
        simp only [entB, str_append, ByteArray.append_assoc]
      obtain ⟨sT, hsT⟩ : ∃ Z, strOfNums tx = Z := ⟨_, rfl⟩
      obtain ⟨X1, hX1⟩ : ∃ Z, strOfNums (textB tx) = Z := ⟨_, rfl⟩
      obtain ⟨X2, hX2⟩ : ∃ Z, strOfNums (varB cnt.toNat) = Z := ⟨_, rfl⟩
      obtain ⟨X3, hX3⟩ : ∃ Z, strOfNums (varB idx.toNat) = Z := ⟨_, rfl⟩
      obtain ⟨X4, hX4⟩ : ∃ Z, strOfNums (hashesB path) = Z := ⟨_, rfl⟩
      obtain ⟨n2, hn2⟩ : ∃ Z, path.length = Z := ⟨_, rfl⟩
      rw [hsT] at x0 HT
      rw [hX1] at HT hsz1 hsum
      rw [hX2] at HV1 hsz2 hsum
      rw [hX3] at HV2 hsz3 hsum
      rw [hX4] at HH hsz4 hsum
      rw [hn2] at x3 HH
      have u1 : IntKind.u64.wrap cnt = cnt := u64w_id f2 (by omega)
      have u2 : IntKind.u64.wrap idx = idx := u64w_id f4 (by omega)
      have u1' : cnt % 18446744073709551616 = cnt := by omega
      have u2' : idx % 18446744073709551616 = idx := by omega
      have g1 : (9223372036854775807 < X1.size + X2.size) = False := eq_false (by omega)
      have g2 : (9223372036854775807 < X1.size + X2.size + X3.size) = False := eq_false (by omega)
      have g3 : (9223372036854775807 < X1.size + X2.size + X3.size + X4.size) = False := eq_false (by omega)
      have g4 : (9223372036854775807 < s.size + (X1.size + X2.size + X3.size + X4.size)) = False := eq_false (by have := HN2.out; omega)
      have wk : wrap64 (k + 1) = k + 1 := wrap64_id (by omega) (by have := HN2.out; omega)
      have HLT := Lib.hid hlt
      have HS := Lib.hid hsum
      obtain ⟨W1, hW1⟩ : ∃ W1, wr.alloc (.cells #[.string sT, .int .i64 cnt, .int .i64 idx, .slice A2 n2 c2] 77) = W1 := ⟨_, rfl⟩
      have hnew : W1.heap[wr.heap.size]? = some (.cells #[.string sT, .int .i64 cnt, .int .i64 idx, .slice A2 n2 c2] 77 (0, 0)) := by rw [← hW1]; simpa using heap_alloc_new wr _
      have HZ1 := Lib.hid (show W1.heap.size = wr.heap.size + 1 by rw [← hW1]; simp)
      have HB1' := Lib.hid (show Below wr.heap.size wr W1 by rw [← hW1]; exact below_alloc (Below.refl _ _) _)
      have HBW := Lib.hid (hb.trans (Below.mono HB1'.out hb.size))
      have HSS := Lib.hid (show ∀ u : World, Below (wr.heap.size + 1) W1 u → u.cell? ⟨wr.heap.size, 0, none⟩ = some (.string sT) ∧ u.cell? ⟨wr.heap.size, 1, none⟩ = some (.int .i64 cnt) ∧ u.cell? ⟨wr.heap.size, 2, none⟩ = some (.int .i64 idx) ∧ u.cell? ⟨wr.heap.size, 3, none⟩ = some (.slice A2 n2 c2) from fun u hu => by
        have h := (hu.block wr.heap.size (by omega)).trans hnew
        exact ⟨(blk_cell h 0).trans rfl, (blk_cell h 1).trans rfl, (blk_cell h 2).trans rfl, (blk_cell h 3).trans rfl⟩)
      have HB0 := Lib.hid (below_drew (Below.refl (wr.heap.size + 1) W1))
      have HTR := Lib.hid (show ∀ u u' : World, Below (wr.heap.size + 1) W1 u → Below u.heap.size u u' → Below (wr.heap.size + 1) W1 u' from fun u u' hu hu' => hu.trans (Below.mono hu' (by have h7 := hu.size; have h8 := HZ1.out; omega)))
      have HWR := Lib.hid (show ∀ u : World, Below (wr.heap.size + 1) W1 u → Below wr.heap.size wr u from fun u hu => HB1'.out.trans (Below.mono hu (by omega)))
      have HW1 := Lib.hid hW1
      clear hs hb l2 C2 hfe h32 hlen hlen2 hx f1 f2 f3 f4 f5 f6 zt hT1 hsz1 hsz2 hsz3 hsz4 hsz hsum hsT hX1 hX2 hX3 hX4 hn2 H hkx hnew hW1
      go_wp2_with fail
      rw [HW1.out]
      go_region_held3 (fun u => u.cell? ⟨wr.heap.size, 0, none⟩ = some (.string sT) ∧ u.cell? ⟨wr.heap.size, 1, none⟩ = some (.int .i64 cnt) ∧ u.cell? ⟨wr.heap.size, 2, none⟩ = some (.int .i64 idx) ∧ u.cell? ⟨wr.heap.size, 3, none⟩ = some (.slice A2 n2 c2)) (first | exact HSS.out _ HB6.out | exact HSS.out _ HB5.out | exact HSS.out _ HB4.out | exact HSS.out _ HB3.out | exact HSS.out _ HB0.out)
        (first
          | (go_at_call 48; (with_reducible refine (HT.out _).mono ?_); rintro e w3 ⟨rfl, hb3⟩; have HB3 := Lib.hid (HTR.out _ _ HB0.out hb3); clear hb3)
          | (go_at_call 46; (with_reducible refine (HV1.out _).mono ?_); rintro e w4 ⟨rfl, hb4⟩; have HB4 := Lib.hid (HTR.out _ _ HB3.out hb4); clear hb4)
          | (go_at_call 46; (with_reducible refine (HV2.out _).mono ?_); rintro e w5 ⟨rfl, hb5⟩; have HB5 := Lib.hid (HTR.out _ _ HB4.out hb5); clear hb5)
          | (go_at_call 45; (with_reducible refine (HH.out _ (HWR.out _ HB5.out)).mono ?_); rintro e w6 ⟨rfl, hb6⟩; have HB6 := Lib.hid (HTR.out _ _ HB5.out hb6); clear hb6))
      all_goals
        have HBN := Lib.hid (HBW.out.trans (Below.mono HB6.out (by have := HBW.out.size; have := HZ1.out; omega)))
        clear u1 u2 u1' u2' g1 g2 g3 g4
        go_wp2_with fail
        go_roundw
        case rel => exact ⟨k + 1, by omega, by have := HLT.out; omega, by rw [wk], _, rfl, Lib.hid ⟨HS.out, HBN.out⟩⟩
        case measure => exact meas_k HLT.out wk hk0
    · obtain ⟨hs, hb⟩ := H.out
      have hkx : k.toNat = xs.length := by have := HN.out; omega
      rw [hkx, List.take_length] at hs
      have HS := Lib.hid hs
      have HB := Lib.hid hb
      clear hs hb hkx H
      go_wp2_with fail
      go_ret
      exact ⟨by rw [← HS.out]; rfl, HB.out⟩
/-- Any field. -/
theorem rput_calls (a : RA) (m : MT) (f : Nat) (hf : f < 10) (w : World) (hm : RC w a m) (hwf : MWf m) (hfit : fitM m f = true) :
    Calls Try.prog 27 #[rmV a m, .int .u8 (chM f : Int)] w fun e w' => e = .returned (.string (strOfNums (putB m f))) ∧ Below w.heap.size w w' := by
  rcases ten hf with rfl | rfl | rfl | rfl | rfl | rfl | rfl | rfl | rfl | rfl
  · exact rput_loc a m w hm hwf hfit
  · exact rput_stop a m w hm hwf hfit
  · exact rput_heads a m w hm hwf hfit
  · exact rput_of a m w hm hwf hfit
  · exact rput_block a m w hm hwf hfit
  · exact rput_data a m w hm hwf hfit
  · exact rput_item a m w hm hwf hfit
  · exact rput_ents a m w hm hwf hfit
  · exact rput_nonce a m w hm hwf hfit
  · exact rput_code a m w hm hwf hfit
end Go.Proofs.Ytfcmdhimlfoofaa.Hand


/- The document's bytes of a message: walked. -/
namespace Go.Proofs.Ytfcmdhimlfoofaa.Hand
open Go Go.RowKit Go.Proofs.Ytfcmdhimlfoofaa.Plain Go.Proofs.Ytfcmdhimlfoofaa.PAll Go.Proofs.YtfcmdhimlfoofaaW.PrintWords Go.Proofs.YtfcmdhimlfoofaaW.PrintLast Go.Proofs.YtfcmdhimlfoofaaW.PrintMore
set_option linter.unusedVariables false
set_option linter.unusedSimpArgs false
set_option maxRecDepth 100000
attribute [local go_sem ↓] Go.wp_at_zero Go.wp_at_succ
theorem ld_int {W : World} {b o : Nat} {x : Int} (h : W.cell? ⟨b, o, none⟩ = some (.int .i64 x)) : (loadVar 3 ⟨b, o, none⟩).run Try.prog W = .ok (.int .i64 x) W := by
  go_simp
attribute [-go_sem] loadVar
/-- The field of the i-th sign of 'lshbidenoc'. -/
def fOf (i : Nat) : Nat := match i with
  | 0 => 0
  | 1 => 1
  | 2 => 2
  | 3 => 4
  | 4 => 6
  | 5 => 5
  | 6 => 7
  | 7 => 8
  | 8 => 3
  | _ => 9
theorem fOf_lt (i : Nat) : fOf i < 10 := by
  unfold fOf
  split <;> decide
theorem fOf_all : ∀ f, f < 10 → ∃ i, i < 10 ∧ fOf i = f := by
  intro f hf
  rcases ten hf with rfl | rfl | rfl | rfl | rfl | rfl | rfl | rfl | rfl | rfl
  · exact ⟨0, by decide, rfl⟩
  · exact ⟨1, by decide, rfl⟩
  · exact ⟨2, by decide, rfl⟩
  · exact ⟨8, by decide, rfl⟩
  · exact ⟨3, by decide, rfl⟩
  · exact ⟨5, by decide, rfl⟩
  · exact ⟨4, by decide, rfl⟩
  · exact ⟨6, by decide, rfl⟩
  · exact ⟨7, by decide, rfl⟩
  · exact ⟨9, by decide, rfl⟩
def allS : ByteArray := ⟨#[108, 115, 104, 98, 105, 100, 101, 110, 111, 99]⟩
theorem idx_all (W : World) (k : Nat) (h : k < 10) : (Instr.index 9 (.string ⟨#[108, 115, 104, 98, 105, 100, 101, 110, 111, 99]⟩) (.int .i64 (k : Int))).run Try.prog W = .ok (.int .u8 (chM (fOf k) : Int)) W := by
  rcases ten h with rfl | rfl | rfl | rfl | rfl | rfl | rfl | rfl | rfl | rfl <;> rfl
theorem has_tells {k : Int} {f : Nat} (h1 : 1 ≤ k) (h9 : k ≤ 9) (hf : f < 10) : mastheadref16_has.f 10 (rusesM k) (chM f : Int) = some (usesM k f) := by
  rcases kinds h1 h9 with rfl | rfl | rfl | rfl | rfl | rfl | rfl | rfl | rfl <;>
    rcases ten hf with rfl | rfl | rfl | rfl | rfl | rfl | rfl | rfl | rfl | rfl <;> decide +kernel
theorem has_calls {k : Int} {f : Nat} (h1 : 1 ≤ k) (h9 : k ≤ 9) (hf : f < 10) (w : World) : Calls Try.prog 24 #[.string (rusesM k), .int .u8 (chM f : Int)] w fun e w' => e = .returned (.bool (usesM k f)) ∧ Below w.heap.size w w' :=
  (mastheadref16_has.calls 10 _ _ _ w (has_tells h1 h9 hf)).mono fun e w' h => ⟨h.1, h.2.below⟩
theorem uses_size {k : Int} (h1 : 1 ≤ k) (h9 : k ≤ 9) : (rusesM k).size = (fieldsM k).length ∧ (fieldsM k).length ≤ 5 := by
  rcases kinds h1 h9 with rfl | rfl | rfl | rfl | rfl | rfl | rfl | rfl | rfl <;> decide +kernel
theorem five {f : Nat} (h : f < 5) : f = 0 ∨ f = 1 ∨ f = 2 ∨ f = 3 ∨ f = 4 := by omega
theorem idx_uses (W : World) {k : Int} (h1 : 1 ≤ k) (h9 : k ≤ 9) (i : Nat) (hi : i < (fieldsM k).length) : (Instr.index 9 (.string (rusesM k)) (.int .i64 (i : Int))).run Try.prog W = .ok (.int .u8 (chM ((fieldsM k).getD i 0) : Int)) W := by
  have h5 := (uses_size h1 h9).2
  rcases kinds h1 h9 with rfl | rfl | rfl | rfl | rfl | rfl | rfl | rfl | rfl <;>
    rcases five (f := i) (by omega) with rfl | rfl | rfl | rfl | rfl <;>
    first | rfl | (exact absurd hi (by decide +kernel))
theorem fields_lt {k : Int} {f : Nat} (h : f ∈ fieldsM k) : f < 10 := by
  have := (List.mem_filter.1 h).1
  simpa using this
theorem fields_get {k : Int} {i : Nat} (h : i < (fieldsM k).length) : (fieldsM k).getD i 0 ∈ fieldsM k ∧ (fieldsM k).take (i + 1) = (fieldsM k).take i ++ [(fieldsM k).getD i 0] := by
  rw [List.getD_eq_getElem?_getD, List.getElem?_eq_getElem h]
  refine ⟨List.getElem_mem h, ?_⟩
  rw [List.take_add_one, List.getElem?_eq_getElem h]
  rfl
theorem puts_len {m : MT} (hw : MWf m) : ∀ (l : List Nat), (∀ f ∈ l, fitM m f = true) → (l.flatMap (putB m)).length ≤ (l.map maxB).sum
  | [], _ => by simp
  | f :: l, h => by
    have h1 := putB_len hw f (h f (by simp))
    have h2 := puts_len hw l (fun x hx => h x (by simp [hx]))
    simp only [List.flatMap_cons, List.length_append, List.map_cons, List.sum_cons]
    omega
theorem sum_fields {k : Int} (h1 : 1 ≤ k) (h9 : k ≤ 9) (i : Nat) (hi : i ≤ 5) : (((fieldsM k).take i).map maxB).sum ≤ 185000 := by
  rcases kinds h1 h9 with rfl | rfl | rfl | rfl | rfl | rfl | rfl | rfl | rfl <;>
    (have : i = 0 ∨ i = 1 ∨ i = 2 ∨ i = 3 ∨ i = 4 ∨ i = 5 := by omega) <;>
    rcases this with rfl | rfl | rfl | rfl | rfl | rfl <;> decide +kernel
theorem bad_all {m : MT} (h : ∀ i, i < 10 → usesM m.kind (fOf i) = false → noneM m (fOf i) = true) : (List.range 10).any (fun f => !usesM m.kind f && !noneM m f) = false :=
  bad_none fun f hf hu => by
    obtain ⟨i, hi, rfl⟩ := fOf_all f hf
    exact h i hi hu
theorem big_all {m : MT} (h : ∀ f ∈ fieldsM m.kind, fitM m f = true) : (fieldsM m.kind).any (fun f => !fitM m f) = false := by
  rw [List.any_eq_false]
  intro f hf
  simp [h f hf]
theorem big_one {m : MT} {f : Nat} (hf : f ∈ fieldsM m.kind) (hn : fitM m f = false) : (fieldsM m.kind).any (fun f => !fitM m f) = true :=
  List.any_eq_true.2 ⟨f, hf, by simp [hn]⟩
theorem infoRMs (a : RA) {m : MT} (hs : m.stop.length = 32) (hb : m.block.length = 32) : (Try.prog.info? 44).map (·.size) = some (rcells a m).toArray.size := by
  rw [(zero_of_info infoRM).2]
  simp [rcells_len a m hs hb]
theorem meas_n {n k : Nat} {x : Int} (h : k < n) (e : x = ((k + 1 : Nat) : Int)) : ((n : Int) - intOf (Value.int .i64 x)).toNat < ((n : Int) - intOf (Value.int .i64 (k : Int))).toNat := by
  subst e
  show ((n : Int) - ((k + 1 : Nat) : Int)).toNat < ((n : Int) - (k : Int)).toNat
  omega
set_option maxHeartbeats 8000000 in
theorem rmbytes_calls (a : RA) (m : MT) (w : World) (hm : RC w a m) (hwf : MWf m) :
    Calls Try.prog 13 #[rmV a m] w fun e w' => e = .returned (.tuple #[.string (strOfNums (bytesMV m)), .int .i64 (bytesME m)]) ∧ Below w.heap.size w w' := by
  have hs32 := hwf.stop.1
  have hb32 := hwf.block.1
  have hsz := infoRMs a hs32 hb32
  have HWF := Lib.hid hwf
  have HNC := Lib.hid (fun f (hf : f < 10) W => rnone_calls a m f W hs32 hb32 hf)
  have HWC := Lib.hid (fun f (hf : f < 10) W (hW : Below w.heap.size w W) => rwithin_calls a m f W hs32 hb32 (hm.below hW) hf)
  have HPC := Lib.hid (fun f (hf : f < 10) W (hW : Below w.heap.size w W) (hfit : fitM m f = true) => rput_calls a m f hf W (hm.below hW) hwf hfit)
  obtain ⟨c0, _⟩ := rcells_at a m hs32 hb32
  obtain ⟨C, hC⟩ : ∃ C, (rcells a m).toArray = C := ⟨_, rfl⟩
  have hV1 : rmV a m = .agg C := by rw [rmV, hC]
  rw [hV1] at HNC HWC HPC ⊢
  rw [hC] at c0 hsz
  obtain ⟨W1, hW1⟩ : ∃ W1, w.alloc (.cells C 44) = W1 := ⟨_, rfl⟩
  have hnew : W1.heap[w.heap.size]? = some (.cells C 44 (0, 0)) := by rw [← hW1]; simpa using heap_alloc_new w _
  have HB1 : Hid (Below w.heap.size w W1) := Lib.hid (by rw [← hW1]; exact below_alloc (Below.refl _ _) _)
  have HZ1 := Lib.hid (show W1.heap.size = w.heap.size + 1 by rw [← hW1]; simp)
  have HU := Lib.hid Try.underlying44
  have HSS := Lib.hid (show ∀ u : World, Below (w.heap.size + 1) W1 u → (loadVar 44 ⟨w.heap.size, 0, none⟩).run Try.prog u = .ok (.agg C) u ∧ u.cell? ⟨w.heap.size, 0, none⟩ = some (.int .i64 m.kind) from fun u hu => by
    have h := (hu.block w.heap.size (by omega)).trans hnew
    exact ⟨run_loadVar_row u w.heap.size _ _ C (0, 0) _ h HU.out rfl hsz, (blk_cell h 0).trans c0⟩)
  have HW1 := Lib.hid hW1
  have HTR := Lib.hid (show ∀ u u' : World, Below (w.heap.size + 1) W1 u → Below u.heap.size u u' → Below (w.heap.size + 1) W1 u' from fun u u' hu hu' => hu.trans (Below.mono hu' (by have h7 := hu.size; have h8 := HZ1.out; omega)))
  have HDR := Lib.hid (show ∀ u : World, Below (w.heap.size + 1) W1 u → Below (w.heap.size + 1) W1 u.drew from fun u hu => below_drew hu)
  have HWR := Lib.hid (show ∀ u : World, Below (w.heap.size + 1) W1 u → Below w.heap.size w u from fun u hu => HB1.out.trans (Below.mono hu (by omega)))
  obtain ⟨E, hE⟩ : ∃ E, bytesME m = E := ⟨_, rfl⟩
  obtain ⟨V, hV⟩ : ∃ V, strOfNums (bytesMV m) = V := ⟨_, rfl⟩
  rw [hE, hV]
  have HE := Lib.hid hE
  have HVV : Hid (V = strOfNums (if E = 0 then digs 1 m.kind.toNat ++ bodyM m else [])) := Lib.hid (by rw [← hV, ← hE]; rfl)
  obtain ⟨q, hq⟩ : ∃ q, m.kind = q := ⟨_, rfl⟩
  rw [hq] at c0 HSS
  have HQ := Lib.hid hq
  have ld0 := ld_int (HSS.out W1 (Below.refl _ _)).2
  rw [← hW1] at ld0
  clear hm hwf hC hV1 hW1 hE hV hs32 hb32 hsz hnew hq
  go_enter Try.func13, Try.ntmps13
  go_wp2_with fail
  rw [HW1.out]
  clear c0 ld0
  refine (ruses_calls q _).mono ?_
  rintro e w1 ⟨rfl, hb⟩
  have HB2 := Lib.hid (show Below (w.heap.size + 1) W1 w1 from Below.mono hb (by have := HZ1.out; omega))
  clear hb
  by_cases hk : q < 1 ∨ 9 < q
  · have hnm := ruses_none hk
    rw [hnm]
    have hE : E = 3 := by rw [← HE.out]; unfold bytesME; rw [HQ.out, if_pos hk]
    have hV : V = ⟨#[]⟩ := by rw [HVV.out, hE]; rfl
    have HBF := Lib.hid (HWR.out _ HB2.out)
    clear hnm hk HE HVV
    subst hE
    subst hV
    go_wp2_with fail
    go_ret2
    exact ⟨rfl, HBF.out⟩
  have HK1 := Lib.hid (show 1 ≤ q by omega)
  have HK9 := Lib.hid (show q ≤ 9 by omega)
  have hnm : ((rusesM q).toList == []) = false := by
    rcases kinds HK1.out HK9.out with rfl | rfl | rfl | rfl | rfl | rfl | rfl | rfl | rfl <;> decide +kernel
  have hus := uses_size HK1.out HK9.out
  have HHAS := Lib.hid (fun f (hf : f < 10) W => has_calls (f := f) HK1.out HK9.out hf W)
  have HIX := Lib.hid (fun i (hi : i < (fieldsM q).length) W => idx_uses W HK1.out HK9.out i hi)
  obtain ⟨U, hU⟩ : ∃ U, rusesM q = U := ⟨_, rfl⟩
  rw [hU] at hnm hus HHAS HIX ⊢
  obtain ⟨nf, hnf⟩ : ∃ n, (fieldsM q).length = n := ⟨_, rfl⟩
  have HNF := Lib.hid hnf
  rw [hnf] at hus HIX
  have HUS := Lib.hid hus
  clear hk hU hnf hus
  go_wp2_with fail
  go_loopw [6] (fun i wr => ∃ k : Nat, k ≤ 10 ∧ i = .int .i64 (k : Int) ∧ Hid (Below (w.heap.size + 1) W1 wr ∧ ∀ j, j < k → usesM m.kind (fOf j) = false → noneM m (fOf j) = true)) (fun i _ => (10 - intOf i).toNat)
  case atStart => exact ⟨0, by omega, rfl, Lib.hid ⟨HB2.out, fun f hf => by omega⟩⟩
  case round =>
    obtain ⟨k, hk, rfl, H⟩ := hrel
    by_cases hlt : k < 10
    · have b1 : decide ((k : Int) < 10) = true := decide_eq_true (by omega)
      obtain ⟨hb, hall⟩ := H.out
      have HB := Lib.hid hb
      have HALL := Lib.hid hall
      have wk : wrap64 ((k : Int) + 1) = ((k + 1 : Nat) : Int) := (wrap64_id (by omega) (by omega)).trans (by omega)
      have HLT := Lib.hid hlt
      have hix := fun W => idx_all W k hlt
      have HH := Lib.hid (HHAS.out (fOf k) (fOf_lt k))
      have HN := Lib.hid (HNC.out (fOf k) (fOf_lt k))
      obtain ⟨ch, hch⟩ : ∃ c : Int, (chM (fOf k) : Int) = c := ⟨_, rfl⟩
      rw [hch] at hix HH HN
      have HB0 := Lib.hid (HDR.out _ hb)
      clear hb hall H hk hlt hch
      obtain ⟨u, hu⟩ : ∃ u, usesM q (fOf k) = u := ⟨_, rfl⟩
      have HUU : Hid (usesM m.kind (fOf k) = u) := Lib.hid (by rw [HQ.out]; exact hu)
      rw [hu] at HH
      clear hu
      cases u with
      | true =>
        go_wp2_with fail
        refine wp_region_held (S := fun u => (loadVar 44 ⟨w.heap.size, 0, none⟩).run Try.prog u = .ok (.agg C) u) (by kernel_rfl) ?_
        change wpAnyH _ _ _ _ _ _ _ _ (World.drew _)
        have hHeld := (HSS.out _ HB0.out).1
        refine wpAnyH_take (i := 0) (oi := ({ dst := some 20, op := Op.move (Operand.tmp 4), type := 9, pos := "ref.go:147", after := #[], guard := none } : Oper)) (v := .string U) rfl (by kernel_rfl) (by kernel_rfl) (by kernel_rfl) (fun _ _ _ h => h) (Or.inl ⟨by rfl, fun w hSw => by go_simp⟩) hHeld ?_
        simp only [Act.put, List.setIfInBounds_toArray, List.set_cons_zero, List.set_cons_succ]
        refine wpAnyH_take (i := 1) (oi := ({ dst := some 21, op := Op.move (Operand.tmp 5), type := 9, pos := "ref.go:147", after := #[], guard := none } : Oper)) (v := .string ⟨#[108, 115, 104, 98, 105, 100, 101, 110, 111, 99]⟩) rfl (by kernel_rfl) (by kernel_rfl) (by kernel_rfl) (fun _ _ _ h => h) (Or.inl ⟨by rfl, fun w hSw => by go_simp⟩) hHeld ?_
        simp only [Act.put, List.setIfInBounds_toArray, List.set_cons_zero, List.set_cons_succ]
        refine wpAnyH_take (i := 2) (oi := ({ dst := some 22, op := Op.move (Operand.tmp 6), type := 3, pos := "ref.go:147", after := #[], guard := none } : Oper)) (v := .int .i64 (k : Int)) rfl (by kernel_rfl) (by kernel_rfl) (by kernel_rfl) (fun _ _ _ h => h) (Or.inl ⟨by rfl, fun w hSw => by go_simp⟩) hHeld ?_
        simp only [Act.put, List.setIfInBounds_toArray, List.set_cons_zero, List.set_cons_succ]
        refine wpAnyH_take (i := 3) (oi := ({ dst := some 23, op := Op.index 9 (Operand.tmp 21) (Operand.tmp 22), type := 5, pos := "ref.go:147", after := #[{ on := 1, ground := Ground.data }, { on := 2, ground := Ground.data }], guard := none } : Oper)) (v := .int .u8 ch) rfl (by kernel_rfl) (by kernel_rfl) (by kernel_rfl) (fun _ _ _ h => h) (Or.inl ⟨by rfl, fun w hSw => by go_simp⟩) hHeld ?_
        simp only [Act.put, List.setIfInBounds_toArray, List.set_cons_zero, List.set_cons_succ]
        refine wpAnyH_ready (rs := [4]) (by kernel_rfl) (by simp) ?_
        refine AllReadyH.cons (o := ({ dst := some 24, op := Op.call { callee := Callee.value (Operand.func 24), args := #[Operand.tmp 20, Operand.tmp 23], argTypes := #[9, 5] }, type := 4, pos := "ref.go:147", after := #[{ on := 0, ground := Ground.data }, { on := 3, ground := Ground.data }], guard := none } : Oper)) rfl (fun K hK => ?_) AllReadyH.nil
        go_simp
        (with_reducible refine (HH.out _).mono ?_)
        rintro e w3 ⟨rfl, hb3⟩
        have HB3 := Lib.hid (HTR.out _ _ HB0.out hb3)
        clear hb3
        go_wp2_with fail
        refine hK.out _ _ ((HSS.out _ HB3.out).1) (fun hHeld => ?_)
        clear hK K
        try simp only [Act.put, List.setIfInBounds_toArray, List.set_cons_zero, List.set_cons_succ]
        refine wpAnyH_take (i := 5) (oi := ({ dst := some 25, op := Op.unOp UnOp.not 4 (Operand.tmp 24), type := 4, pos := "ref.go:147", after := #[{ on := 4, ground := Ground.data }], guard := none } : Oper)) (v := .bool false) rfl (by kernel_rfl) (by kernel_rfl) (by kernel_rfl) (fun _ _ _ h => h) (Or.inl ⟨by rfl, fun w hSw => by go_simp⟩) hHeld ?_
        simp only [Act.put, List.setIfInBounds_toArray, List.set_cons_zero, List.set_cons_succ]
        refine wpAnyH_take (i := 6) (oi := ({ dst := some 26, op := Op.move (Operand.tmp 25), type := 4, pos := "ref.go:147", after := #[{ on := 5, ground := Ground.data }, { on := 4, ground := Ground.chain }], guard := none } : Oper)) (v := .bool false) rfl (by kernel_rfl) (by kernel_rfl) (by kernel_rfl) (fun _ _ _ h => h) (Or.inl ⟨by rfl, fun w hSw => by go_simp⟩) hHeld ?_
        simp only [Act.put, List.setIfInBounds_toArray, List.set_cons_zero, List.set_cons_succ]
        refine wpAnyH_take (i := 7) (oi := ({ dst := some 27, op := Op.load 44 (Operand.tmp 1), type := 44, pos := "ref.go:147", after := #[{ on := 6, ground := Ground.guard }], guard := some (6, true) } : Oper)) (v := undef) rfl (by kernel_rfl) (by kernel_rfl) (by kernel_rfl) (fun _ _ _ h => h) (Or.inr ⟨by rfl, rfl⟩) hHeld ?_
        simp only [Act.put, List.setIfInBounds_toArray, List.set_cons_zero, List.set_cons_succ]
        refine wpAnyH_take (i := 8) (oi := ({ dst := some 28, op := Op.move (Operand.tmp 5), type := 9, pos := "ref.go:147", after := #[{ on := 6, ground := Ground.guard }], guard := some (6, true) } : Oper)) (v := undef) rfl (by kernel_rfl) (by kernel_rfl) (by kernel_rfl) (fun _ _ _ h => h) (Or.inr ⟨by rfl, rfl⟩) hHeld ?_
        simp only [Act.put, List.setIfInBounds_toArray, List.set_cons_zero, List.set_cons_succ]
        refine wpAnyH_take (i := 9) (oi := ({ dst := some 29, op := Op.move (Operand.tmp 6), type := 3, pos := "ref.go:147", after := #[{ on := 6, ground := Ground.guard }], guard := some (6, true) } : Oper)) (v := undef) rfl (by kernel_rfl) (by kernel_rfl) (by kernel_rfl) (fun _ _ _ h => h) (Or.inr ⟨by rfl, rfl⟩) hHeld ?_
        simp only [Act.put, List.setIfInBounds_toArray, List.set_cons_zero, List.set_cons_succ]
        refine wpAnyH_take (i := 10) (oi := ({ dst := some 30, op := Op.index 9 (Operand.tmp 28) (Operand.tmp 29), type := 5, pos := "ref.go:147", after := #[{ on := 8, ground := Ground.data }, { on := 9, ground := Ground.data }, { on := 6, ground := Ground.guard }], guard := some (6, true) } : Oper)) (v := undef) rfl (by kernel_rfl) (by kernel_rfl) (by kernel_rfl) (fun _ _ _ h => h) (Or.inr ⟨by rfl, rfl⟩) hHeld ?_
        simp only [Act.put, List.setIfInBounds_toArray, List.set_cons_zero, List.set_cons_succ]
        refine wpAnyH_take (i := 11) (oi := ({ dst := some 31, op := Op.call { callee := Callee.value (Operand.func 25), args := #[Operand.tmp 27, Operand.tmp 30], argTypes := #[44, 5] }, type := 4, pos := "ref.go:147", after := #[{ on := 7, ground := Ground.data }, { on := 10, ground := Ground.data }, { on := 6, ground := Ground.chain }, { on := 6, ground := Ground.guard }], guard := some (6, true) } : Oper)) (v := undef) rfl (by kernel_rfl) (by kernel_rfl) (by kernel_rfl) (fun _ _ _ h => h) (Or.inr ⟨by rfl, rfl⟩) hHeld ?_
        simp only [Act.put, List.setIfInBounds_toArray, List.set_cons_zero, List.set_cons_succ]
        refine wpAnyH_take (i := 12) (oi := ({ dst := some 32, op := Op.unOp UnOp.not 4 (Operand.tmp 31), type := 4, pos := "ref.go:147", after := #[{ on := 11, ground := Ground.data }, { on := 6, ground := Ground.guard }], guard := some (6, true) } : Oper)) (v := undef) rfl (by kernel_rfl) (by kernel_rfl) (by kernel_rfl) (fun _ _ _ h => h) (Or.inr ⟨by rfl, rfl⟩) hHeld ?_
        simp only [Act.put, List.setIfInBounds_toArray, List.set_cons_zero, List.set_cons_succ]
        refine wpAnyH_take (i := 13) (oi := ({ dst := some 33, op := Op.pick (Operand.tmp 26) (Operand.tmp 32) (Operand.const (Value.bool false)), type := 4, pos := "ref.go:147", after := #[{ on := 6, ground := Ground.data }, { on := 12, ground := Ground.data }], guard := none } : Oper)) (v := .bool false) rfl (by kernel_rfl) (by kernel_rfl) (by kernel_rfl) (fun _ _ _ h => h) (Or.inl ⟨by rfl, fun w hSw => by go_simp⟩) hHeld ?_
        simp only [Act.put, List.setIfInBounds_toArray, List.set_cons_zero, List.set_cons_succ]
        refine wpAnyH_done (by kernel_rfl) ?_ _
        clear hHeld hix
        go_wp2_with fail
        go_roundw
        case rel => exact ⟨k + 1, by have := HLT.out; omega, by rw [wk], Lib.hid ⟨HB3.out, below_succ HALL.out (fun h => by rw [HUU.out] at h; cases h)⟩⟩
        case measure => exact meas10 HLT.out wk
      | false =>
        obtain ⟨u, hu⟩ : ∃ u, noneM m (fOf k) = u := ⟨_, rfl⟩
        have HNN := Lib.hid hu
        rw [hu] at HN
        clear hu
        cases u with
        | true =>
          go_wp2_with fail
          refine wp_region_held (S := fun u => (loadVar 44 ⟨w.heap.size, 0, none⟩).run Try.prog u = .ok (.agg C) u) (by kernel_rfl) ?_
          change wpAnyH _ _ _ _ _ _ _ _ (World.drew _)
          have hHeld := (HSS.out _ HB0.out).1
          refine wpAnyH_take (i := 0) (oi := ({ dst := some 20, op := Op.move (Operand.tmp 4), type := 9, pos := "ref.go:147", after := #[], guard := none } : Oper)) (v := .string U) rfl (by kernel_rfl) (by kernel_rfl) (by kernel_rfl) (fun _ _ _ h => h) (Or.inl ⟨by rfl, fun w hSw => by go_simp⟩) hHeld ?_
          simp only [Act.put, List.setIfInBounds_toArray, List.set_cons_zero, List.set_cons_succ]
          refine wpAnyH_take (i := 1) (oi := ({ dst := some 21, op := Op.move (Operand.tmp 5), type := 9, pos := "ref.go:147", after := #[], guard := none } : Oper)) (v := .string ⟨#[108, 115, 104, 98, 105, 100, 101, 110, 111, 99]⟩) rfl (by kernel_rfl) (by kernel_rfl) (by kernel_rfl) (fun _ _ _ h => h) (Or.inl ⟨by rfl, fun w hSw => by go_simp⟩) hHeld ?_
          simp only [Act.put, List.setIfInBounds_toArray, List.set_cons_zero, List.set_cons_succ]
          refine wpAnyH_take (i := 2) (oi := ({ dst := some 22, op := Op.move (Operand.tmp 6), type := 3, pos := "ref.go:147", after := #[], guard := none } : Oper)) (v := .int .i64 (k : Int)) rfl (by kernel_rfl) (by kernel_rfl) (by kernel_rfl) (fun _ _ _ h => h) (Or.inl ⟨by rfl, fun w hSw => by go_simp⟩) hHeld ?_
          simp only [Act.put, List.setIfInBounds_toArray, List.set_cons_zero, List.set_cons_succ]
          refine wpAnyH_take (i := 3) (oi := ({ dst := some 23, op := Op.index 9 (Operand.tmp 21) (Operand.tmp 22), type := 5, pos := "ref.go:147", after := #[{ on := 1, ground := Ground.data }, { on := 2, ground := Ground.data }], guard := none } : Oper)) (v := .int .u8 ch) rfl (by kernel_rfl) (by kernel_rfl) (by kernel_rfl) (fun _ _ _ h => h) (Or.inl ⟨by rfl, fun w hSw => by go_simp⟩) hHeld ?_
          simp only [Act.put, List.setIfInBounds_toArray, List.set_cons_zero, List.set_cons_succ]
          refine wpAnyH_ready (rs := [4]) (by kernel_rfl) (by simp) ?_
          refine AllReadyH.cons (o := ({ dst := some 24, op := Op.call { callee := Callee.value (Operand.func 24), args := #[Operand.tmp 20, Operand.tmp 23], argTypes := #[9, 5] }, type := 4, pos := "ref.go:147", after := #[{ on := 0, ground := Ground.data }, { on := 3, ground := Ground.data }], guard := none } : Oper)) rfl (fun K hK => ?_) AllReadyH.nil
          go_simp
          (with_reducible refine (HH.out _).mono ?_)
          rintro e w3 ⟨rfl, hb3⟩
          have HB3 := Lib.hid (HTR.out _ _ HB0.out hb3)
          clear hb3
          go_wp2_with fail
          refine hK.out _ _ ((HSS.out _ HB3.out).1) (fun hHeld => ?_)
          clear hK K
          try simp only [Act.put, List.setIfInBounds_toArray, List.set_cons_zero, List.set_cons_succ]
          refine wpAnyH_take (i := 5) (oi := ({ dst := some 25, op := Op.unOp UnOp.not 4 (Operand.tmp 24), type := 4, pos := "ref.go:147", after := #[{ on := 4, ground := Ground.data }], guard := none } : Oper)) (v := .bool true) rfl (by kernel_rfl) (by kernel_rfl) (by kernel_rfl) (fun _ _ _ h => h) (Or.inl ⟨by rfl, fun w hSw => by go_simp⟩) hHeld ?_
          simp only [Act.put, List.setIfInBounds_toArray, List.set_cons_zero, List.set_cons_succ]
          refine wpAnyH_take (i := 6) (oi := ({ dst := some 26, op := Op.move (Operand.tmp 25), type := 4, pos := "ref.go:147", after := #[{ on := 5, ground := Ground.data }, { on := 4, ground := Ground.chain }], guard := none } : Oper)) (v := .bool true) rfl (by kernel_rfl) (by kernel_rfl) (by kernel_rfl) (fun _ _ _ h => h) (Or.inl ⟨by rfl, fun w hSw => by go_simp⟩) hHeld ?_
          simp only [Act.put, List.setIfInBounds_toArray, List.set_cons_zero, List.set_cons_succ]
          refine wpAnyH_take (i := 7) (oi := ({ dst := some 27, op := Op.load 44 (Operand.tmp 1), type := 44, pos := "ref.go:147", after := #[{ on := 6, ground := Ground.guard }], guard := some (6, true) } : Oper)) (v := .agg C) rfl (by kernel_rfl) (by kernel_rfl) (by kernel_rfl) (fun _ _ _ h => h) (Or.inl ⟨by rfl, fun w hSw => by go_simp⟩) hHeld ?_
          simp only [Act.put, List.setIfInBounds_toArray, List.set_cons_zero, List.set_cons_succ]
          refine wpAnyH_take (i := 8) (oi := ({ dst := some 28, op := Op.move (Operand.tmp 5), type := 9, pos := "ref.go:147", after := #[{ on := 6, ground := Ground.guard }], guard := some (6, true) } : Oper)) (v := .string ⟨#[108, 115, 104, 98, 105, 100, 101, 110, 111, 99]⟩) rfl (by kernel_rfl) (by kernel_rfl) (by kernel_rfl) (fun _ _ _ h => h) (Or.inl ⟨by rfl, fun w hSw => by go_simp⟩) hHeld ?_
          simp only [Act.put, List.setIfInBounds_toArray, List.set_cons_zero, List.set_cons_succ]
          refine wpAnyH_take (i := 9) (oi := ({ dst := some 29, op := Op.move (Operand.tmp 6), type := 3, pos := "ref.go:147", after := #[{ on := 6, ground := Ground.guard }], guard := some (6, true) } : Oper)) (v := .int .i64 (k : Int)) rfl (by kernel_rfl) (by kernel_rfl) (by kernel_rfl) (fun _ _ _ h => h) (Or.inl ⟨by rfl, fun w hSw => by go_simp⟩) hHeld ?_
          simp only [Act.put, List.setIfInBounds_toArray, List.set_cons_zero, List.set_cons_succ]
          refine wpAnyH_take (i := 10) (oi := ({ dst := some 30, op := Op.index 9 (Operand.tmp 28) (Operand.tmp 29), type := 5, pos := "ref.go:147", after := #[{ on := 8, ground := Ground.data }, { on := 9, ground := Ground.data }, { on := 6, ground := Ground.guard }], guard := some (6, true) } : Oper)) (v := .int .u8 ch) rfl (by kernel_rfl) (by kernel_rfl) (by kernel_rfl) (fun _ _ _ h => h) (Or.inl ⟨by rfl, fun w hSw => by go_simp⟩) hHeld ?_
          simp only [Act.put, List.setIfInBounds_toArray, List.set_cons_zero, List.set_cons_succ]
          refine wpAnyH_ready (rs := [11]) (by kernel_rfl) (by simp) ?_
          refine AllReadyH.cons (o := ({ dst := some 31, op := Op.call { callee := Callee.value (Operand.func 25), args := #[Operand.tmp 27, Operand.tmp 30], argTypes := #[44, 5] }, type := 4, pos := "ref.go:147", after := #[{ on := 7, ground := Ground.data }, { on := 10, ground := Ground.data }, { on := 6, ground := Ground.chain }, { on := 6, ground := Ground.guard }], guard := some (6, true) } : Oper)) rfl (fun K hK => ?_) AllReadyH.nil
          go_simp
          (with_reducible refine (HN.out _).mono ?_)
          rintro e w4 ⟨rfl, hb4⟩
          have HB4 := Lib.hid (HTR.out _ _ HB3.out hb4)
          clear hb4
          go_wp2_with fail
          refine hK.out _ _ ((HSS.out _ HB4.out).1) (fun hHeld => ?_)
          clear hK K
          try simp only [Act.put, List.setIfInBounds_toArray, List.set_cons_zero, List.set_cons_succ]
          refine wpAnyH_take (i := 12) (oi := ({ dst := some 32, op := Op.unOp UnOp.not 4 (Operand.tmp 31), type := 4, pos := "ref.go:147", after := #[{ on := 11, ground := Ground.data }, { on := 6, ground := Ground.guard }], guard := some (6, true) } : Oper)) (v := .bool false) rfl (by kernel_rfl) (by kernel_rfl) (by kernel_rfl) (fun _ _ _ h => h) (Or.inl ⟨by rfl, fun w hSw => by go_simp⟩) hHeld ?_
          simp only [Act.put, List.setIfInBounds_toArray, List.set_cons_zero, List.set_cons_succ]
          refine wpAnyH_take (i := 13) (oi := ({ dst := some 33, op := Op.pick (Operand.tmp 26) (Operand.tmp 32) (Operand.const (Value.bool false)), type := 4, pos := "ref.go:147", after := #[{ on := 6, ground := Ground.data }, { on := 12, ground := Ground.data }], guard := none } : Oper)) (v := .bool false) rfl (by kernel_rfl) (by kernel_rfl) (by kernel_rfl) (fun _ _ _ h => h) (Or.inl ⟨by rfl, fun w hSw => by go_simp⟩) hHeld ?_
          simp only [Act.put, List.setIfInBounds_toArray, List.set_cons_zero, List.set_cons_succ]
          refine wpAnyH_done (by kernel_rfl) ?_ _
          clear hHeld hix
          go_wp2_with fail
          go_roundw
          case rel => exact ⟨k + 1, by have := HLT.out; omega, by rw [wk], Lib.hid ⟨HB4.out, below_succ HALL.out (fun _ => HNN.out)⟩⟩
          case measure => exact meas10 HLT.out wk
        | false =>
          have hE : E = 3 := by rw [← HE.out]; unfold bytesME; rw [if_neg (by rw [HQ.out]; have := HK1.out; have := HK9.out; omega), if_pos (bad_any (fOf_lt k) HUU.out HNN.out)]
          have hV : V = ⟨#[]⟩ := by rw [HVV.out, hE]; rfl
          clear HE HVV
          subst hE
          subst hV
          go_wp2_with fail
          refine wp_region_held (S := fun u => (loadVar 44 ⟨w.heap.size, 0, none⟩).run Try.prog u = .ok (.agg C) u) (by kernel_rfl) ?_
          change wpAnyH _ _ _ _ _ _ _ _ (World.drew _)
          have hHeld := (HSS.out _ HB0.out).1
          refine wpAnyH_take (i := 0) (oi := ({ dst := some 20, op := Op.move (Operand.tmp 4), type := 9, pos := "ref.go:147", after := #[], guard := none } : Oper)) (v := .string U) rfl (by kernel_rfl) (by kernel_rfl) (by kernel_rfl) (fun _ _ _ h => h) (Or.inl ⟨by rfl, fun w hSw => by go_simp⟩) hHeld ?_
          simp only [Act.put, List.setIfInBounds_toArray, List.set_cons_zero, List.set_cons_succ]
          refine wpAnyH_take (i := 1) (oi := ({ dst := some 21, op := Op.move (Operand.tmp 5), type := 9, pos := "ref.go:147", after := #[], guard := none } : Oper)) (v := .string ⟨#[108, 115, 104, 98, 105, 100, 101, 110, 111, 99]⟩) rfl (by kernel_rfl) (by kernel_rfl) (by kernel_rfl) (fun _ _ _ h => h) (Or.inl ⟨by rfl, fun w hSw => by go_simp⟩) hHeld ?_
          simp only [Act.put, List.setIfInBounds_toArray, List.set_cons_zero, List.set_cons_succ]
          refine wpAnyH_take (i := 2) (oi := ({ dst := some 22, op := Op.move (Operand.tmp 6), type := 3, pos := "ref.go:147", after := #[], guard := none } : Oper)) (v := .int .i64 (k : Int)) rfl (by kernel_rfl) (by kernel_rfl) (by kernel_rfl) (fun _ _ _ h => h) (Or.inl ⟨by rfl, fun w hSw => by go_simp⟩) hHeld ?_
          simp only [Act.put, List.setIfInBounds_toArray, List.set_cons_zero, List.set_cons_succ]
          refine wpAnyH_take (i := 3) (oi := ({ dst := some 23, op := Op.index 9 (Operand.tmp 21) (Operand.tmp 22), type := 5, pos := "ref.go:147", after := #[{ on := 1, ground := Ground.data }, { on := 2, ground := Ground.data }], guard := none } : Oper)) (v := .int .u8 ch) rfl (by kernel_rfl) (by kernel_rfl) (by kernel_rfl) (fun _ _ _ h => h) (Or.inl ⟨by rfl, fun w hSw => by go_simp⟩) hHeld ?_
          simp only [Act.put, List.setIfInBounds_toArray, List.set_cons_zero, List.set_cons_succ]
          refine wpAnyH_ready (rs := [4]) (by kernel_rfl) (by simp) ?_
          refine AllReadyH.cons (o := ({ dst := some 24, op := Op.call { callee := Callee.value (Operand.func 24), args := #[Operand.tmp 20, Operand.tmp 23], argTypes := #[9, 5] }, type := 4, pos := "ref.go:147", after := #[{ on := 0, ground := Ground.data }, { on := 3, ground := Ground.data }], guard := none } : Oper)) rfl (fun K hK => ?_) AllReadyH.nil
          go_simp
          (with_reducible refine (HH.out _).mono ?_)
          rintro e w3 ⟨rfl, hb3⟩
          have HB3 := Lib.hid (HTR.out _ _ HB0.out hb3)
          clear hb3
          go_wp2_with fail
          refine hK.out _ _ ((HSS.out _ HB3.out).1) (fun hHeld => ?_)
          clear hK K
          try simp only [Act.put, List.setIfInBounds_toArray, List.set_cons_zero, List.set_cons_succ]
          refine wpAnyH_take (i := 5) (oi := ({ dst := some 25, op := Op.unOp UnOp.not 4 (Operand.tmp 24), type := 4, pos := "ref.go:147", after := #[{ on := 4, ground := Ground.data }], guard := none } : Oper)) (v := .bool true) rfl (by kernel_rfl) (by kernel_rfl) (by kernel_rfl) (fun _ _ _ h => h) (Or.inl ⟨by rfl, fun w hSw => by go_simp⟩) hHeld ?_
          simp only [Act.put, List.setIfInBounds_toArray, List.set_cons_zero, List.set_cons_succ]
          refine wpAnyH_take (i := 6) (oi := ({ dst := some 26, op := Op.move (Operand.tmp 25), type := 4, pos := "ref.go:147", after := #[{ on := 5, ground := Ground.data }, { on := 4, ground := Ground.chain }], guard := none } : Oper)) (v := .bool true) rfl (by kernel_rfl) (by kernel_rfl) (by kernel_rfl) (fun _ _ _ h => h) (Or.inl ⟨by rfl, fun w hSw => by go_simp⟩) hHeld ?_
          simp only [Act.put, List.setIfInBounds_toArray, List.set_cons_zero, List.set_cons_succ]
          refine wpAnyH_take (i := 7) (oi := ({ dst := some 27, op := Op.load 44 (Operand.tmp 1), type := 44, pos := "ref.go:147", after := #[{ on := 6, ground := Ground.guard }], guard := some (6, true) } : Oper)) (v := .agg C) rfl (by kernel_rfl) (by kernel_rfl) (by kernel_rfl) (fun _ _ _ h => h) (Or.inl ⟨by rfl, fun w hSw => by go_simp⟩) hHeld ?_
          simp only [Act.put, List.setIfInBounds_toArray, List.set_cons_zero, List.set_cons_succ]
          refine wpAnyH_take (i := 8) (oi := ({ dst := some 28, op := Op.move (Operand.tmp 5), type := 9, pos := "ref.go:147", after := #[{ on := 6, ground := Ground.guard }], guard := some (6, true) } : Oper)) (v := .string ⟨#[108, 115, 104, 98, 105, 100, 101, 110, 111, 99]⟩) rfl (by kernel_rfl) (by kernel_rfl) (by kernel_rfl) (fun _ _ _ h => h) (Or.inl ⟨by rfl, fun w hSw => by go_simp⟩) hHeld ?_
          simp only [Act.put, List.setIfInBounds_toArray, List.set_cons_zero, List.set_cons_succ]
          refine wpAnyH_take (i := 9) (oi := ({ dst := some 29, op := Op.move (Operand.tmp 6), type := 3, pos := "ref.go:147", after := #[{ on := 6, ground := Ground.guard }], guard := some (6, true) } : Oper)) (v := .int .i64 (k : Int)) rfl (by kernel_rfl) (by kernel_rfl) (by kernel_rfl) (fun _ _ _ h => h) (Or.inl ⟨by rfl, fun w hSw => by go_simp⟩) hHeld ?_
          simp only [Act.put, List.setIfInBounds_toArray, List.set_cons_zero, List.set_cons_succ]
          refine wpAnyH_take (i := 10) (oi := ({ dst := some 30, op := Op.index 9 (Operand.tmp 28) (Operand.tmp 29), type := 5, pos := "ref.go:147", after := #[{ on := 8, ground := Ground.data }, { on := 9, ground := Ground.data }, { on := 6, ground := Ground.guard }], guard := some (6, true) } : Oper)) (v := .int .u8 ch) rfl (by kernel_rfl) (by kernel_rfl) (by kernel_rfl) (fun _ _ _ h => h) (Or.inl ⟨by rfl, fun w hSw => by go_simp⟩) hHeld ?_
          simp only [Act.put, List.setIfInBounds_toArray, List.set_cons_zero, List.set_cons_succ]
          refine wpAnyH_ready (rs := [11]) (by kernel_rfl) (by simp) ?_
          refine AllReadyH.cons (o := ({ dst := some 31, op := Op.call { callee := Callee.value (Operand.func 25), args := #[Operand.tmp 27, Operand.tmp 30], argTypes := #[44, 5] }, type := 4, pos := "ref.go:147", after := #[{ on := 7, ground := Ground.data }, { on := 10, ground := Ground.data }, { on := 6, ground := Ground.chain }, { on := 6, ground := Ground.guard }], guard := some (6, true) } : Oper)) rfl (fun K hK => ?_) AllReadyH.nil
          go_simp
          (with_reducible refine (HN.out _).mono ?_)
          rintro e w4 ⟨rfl, hb4⟩
          have HB4 := Lib.hid (HTR.out _ _ HB3.out hb4)
          clear hb4
          go_wp2_with fail
          refine hK.out _ _ ((HSS.out _ HB4.out).1) (fun hHeld => ?_)
          clear hK K
          try simp only [Act.put, List.setIfInBounds_toArray, List.set_cons_zero, List.set_cons_succ]
          refine wpAnyH_take (i := 12) (oi := ({ dst := some 32, op := Op.unOp UnOp.not 4 (Operand.tmp 31), type := 4, pos := "ref.go:147", after := #[{ on := 11, ground := Ground.data }, { on := 6, ground := Ground.guard }], guard := some (6, true) } : Oper)) (v := .bool true) rfl (by kernel_rfl) (by kernel_rfl) (by kernel_rfl) (fun _ _ _ h => h) (Or.inl ⟨by rfl, fun w hSw => by go_simp⟩) hHeld ?_
          simp only [Act.put, List.setIfInBounds_toArray, List.set_cons_zero, List.set_cons_succ]
          refine wpAnyH_take (i := 13) (oi := ({ dst := some 33, op := Op.pick (Operand.tmp 26) (Operand.tmp 32) (Operand.const (Value.bool false)), type := 4, pos := "ref.go:147", after := #[{ on := 6, ground := Ground.data }, { on := 12, ground := Ground.data }], guard := none } : Oper)) (v := .bool true) rfl (by kernel_rfl) (by kernel_rfl) (by kernel_rfl) (fun _ _ _ h => h) (Or.inl ⟨by rfl, fun w hSw => by go_simp⟩) hHeld ?_
          simp only [Act.put, List.setIfInBounds_toArray, List.set_cons_zero, List.set_cons_succ]
          refine wpAnyH_done (by kernel_rfl) ?_ _
          clear hHeld hix
          have HBF := Lib.hid (HWR.out _ HB4.out)
          go_wp2_with fail
          go_ret2
          exact ⟨rfl, HBF.out⟩
    · obtain ⟨wq, rfl⟩ : ∃ x, x = wr := ⟨wr, rfl⟩
      have hk10 : k = 10 := by omega
      subst hk10
      rw [show ((10 : Nat) : Int) = 10 from rfl]
      obtain ⟨hb, hall⟩ := H.out
      have HNB := Lib.hid (bad_all hall)
      have ld1 := ld_int (HSS.out wq hb).2
      have hq1 := HK1.out
      have hq9 := HK9.out
      have wq8 : IntKind.u8.wrap q = q := by
        rcases kinds hq1 hq9 with rfl | rfl | rfl | rfl | rfl | rfl | rfl | rfl | rfl <;> rfl
      have wq8' : q % 256 = q := by omega
      have hcv : (convert 23 9 (.slice (some ⟨wq.heap.size, 0, none⟩) 1 1)).run Try.prog (wq.alloc (.cells #[.int .u8 q] 5)) = .ok (.string (strOfNums [q])) (wq.alloc (.cells #[.int .u8 q] 5)) := by
        have h1 := heap_alloc_new wq (.cells #[.int .u8 q] 5)
        have hC := C_of_block (pre := []) (post := []) (k := .u8) (ys := [q]) (o := 0) (w := wq.alloc (.cells #[.int .u8 q] 5)) (b := wq.heap.size) (t := 5) (fr := (0, 0)) h1 rfl (by simp)
        exact Kd.C_string (P := Try.prog) (src := 23) (dst := 9) (c := 1) Try.underlying23 Try.underlying5 Try.underlying9 hC
      have hd1 : digs 1 q.toNat = [q] := by
        rcases kinds hq1 hq9 with rfl | rfl | rfl | rfl | rfl | rfl | rfl | rfl | rfl <;> rfl
      have HD1 := Lib.hid (show strOfNums [q] = strOfNums (digs 1 m.kind.toNat ++ ((fieldsM q).take 0).flatMap (putB m)) by rw [HQ.out, hd1]; simp)
      obtain ⟨s0, hs0⟩ : ∃ s, strOfNums [q] = s := ⟨_, rfl⟩
      rw [hs0] at hcv HD1
      have HBQ := Lib.hid (show Below (w.heap.size + 1) W1 (wq.alloc (.cells #[.int .u8 q] 5)) from HTR.out _ _ hb (below_alloc (Below.refl _ _) _))
      have hus := HUS.out.1
      clear hb hall H hlt hk hq1 hq9 hd1 hs0
      go_wp2_with fail
      clear ld1 wq8 wq8' hcv
      go_loopw [7, 8] (fun v i wl => ∃ k : Nat, k ≤ nf ∧ i = .int .i64 (k : Int) ∧ ∃ s, v = .string s ∧ Hid (s = strOfNums (digs 1 m.kind.toNat ++ ((fieldsM q).take k).flatMap (putB m)) ∧ Below (w.heap.size + 1) W1 wl ∧ ∀ f ∈ (fieldsM q).take k, fitM m f = true)) (fun _ i _ => ((nf : Int) - intOf i).toNat)
      case atStart => exact ⟨0, Nat.zero_le _, rfl, _, rfl, Lib.hid ⟨HD1.out, HBQ.out, by simp⟩⟩
      case round =>
        obtain ⟨k, hk, rfl, s, rfl, H⟩ := hrel
        by_cases hlt : k < nf
        · have b1 : decide ((k : Int) < (nf : Int)) = true := decide_eq_true (by omega)
          obtain ⟨hs, hb, hall⟩ := H.out
          have hmem := fields_get (k := q) (i := k) (by rw [HNF.out]; exact hlt)
          have hf10 := fields_lt hmem.1
          have hix := fun W => HIX.out k hlt W
          obtain ⟨f, hf⟩ : ∃ f, (fieldsM q).getD k 0 = f := ⟨_, rfl⟩
          rw [hf] at hmem hf10 hix
          have HMEM := Lib.hid hmem
          have HALL := Lib.hid hall
          have HS := Lib.hid hs
          have HB0 := Lib.hid (HDR.out _ hb)
          have HW := Lib.hid (HWC.out f hf10 wr.drew (HWR.out _ HB0.out))
          obtain ⟨ch, hch⟩ : ∃ c : Int, (chM f : Int) = c := ⟨_, rfl⟩
          have HP0 := Lib.hid (fun W (hW : Below (w.heap.size + 1) W1 W) hfit => HPC.out f hf10 W (HWR.out _ hW) hfit)
          rw [hch] at hix HW HP0
          have wk : wrap64 ((k : Int) + 1) = ((k + 1 : Nat) : Int) := (wrap64_id (by omega) (by have := HUS.out.2; omega)).trans (by omega)
          have HLT := Lib.hid hlt
          have hlen := puts_len HWF.out _ hall
          have hsum := sum_fields HK1.out HK9.out k (by have := HUS.out.2; omega)
          have HSL := Lib.hid (show s.size ≤ 185001 by
            rw [hs, strOfNums_size, List.length_append, digs_length]
            omega)
          clear hs hb hall hmem hf10 hf hch H hlt hk hlen hsum
          obtain ⟨u, hu⟩ : ∃ u, fitM m f = u := ⟨_, rfl⟩
          have HFF := Lib.hid hu
          rw [hu] at HW
          clear hu
          cases u with
          | false =>
            have hE : E = 4 := by rw [← HE.out]; unfold bytesME; rw [HQ.out, if_neg (by have := HK1.out; have := HK9.out; omega), ← HQ.out, HNB.out, if_neg (by decide), if_pos (big_one (f := f) (by rw [HQ.out]; exact HMEM.out.1) HFF.out)]
            have hV : V = ⟨#[]⟩ := by rw [HVV.out, hE]; rfl
            clear HE HVV
            subst hE
            subst hV
            go_wp2_with fail
            refine wp_region_held (S := fun u => (loadVar 44 ⟨w.heap.size, 0, none⟩).run Try.prog u = .ok (.agg C) u) (by kernel_rfl) ?_
            change wpAnyH _ _ _ _ _ _ _ _ (World.drew _)
            have hHeld := (HSS.out _ HB0.out).1
            refine wpAnyH_take (i := 0) (oi := ({ dst := some 45, op := Op.load 44 (Operand.tmp 1), type := 44, pos := "ref.go:153", after := #[], guard := none } : Oper)) (v := .agg C) rfl (by kernel_rfl) (by kernel_rfl) (by kernel_rfl) (fun _ _ _ h => h) (Or.inl ⟨by rfl, fun w hSw => by go_simp⟩) hHeld ?_
            simp only [Act.put, List.setIfInBounds_toArray, List.set_cons_zero, List.set_cons_succ]
            refine wpAnyH_take (i := 1) (oi := ({ dst := some 46, op := Op.move (Operand.tmp 4), type := 9, pos := "ref.go:153", after := #[], guard := none } : Oper)) (v := .string U) rfl (by kernel_rfl) (by kernel_rfl) (by kernel_rfl) (fun _ _ _ h => h) (Or.inl ⟨by rfl, fun w hSw => by go_simp⟩) hHeld ?_
            simp only [Act.put, List.setIfInBounds_toArray, List.set_cons_zero, List.set_cons_succ]
            refine wpAnyH_take (i := 2) (oi := ({ dst := some 47, op := Op.move (Operand.tmp 8), type := 3, pos := "ref.go:153", after := #[], guard := none } : Oper)) (v := .int .i64 (k : Int)) rfl (by kernel_rfl) (by kernel_rfl) (by kernel_rfl) (fun _ _ _ h => h) (Or.inl ⟨by rfl, fun w hSw => by go_simp⟩) hHeld ?_
            simp only [Act.put, List.setIfInBounds_toArray, List.set_cons_zero, List.set_cons_succ]
            refine wpAnyH_take (i := 3) (oi := ({ dst := some 48, op := Op.index 9 (Operand.tmp 46) (Operand.tmp 47), type := 5, pos := "ref.go:153", after := #[{ on := 1, ground := Ground.data }, { on := 2, ground := Ground.data }], guard := none } : Oper)) (v := .int .u8 ch) rfl (by kernel_rfl) (by kernel_rfl) (by kernel_rfl) (fun _ _ _ h => h) (Or.inl ⟨by rfl, fun w hSw => by go_simp⟩) hHeld ?_
            simp only [Act.put, List.setIfInBounds_toArray, List.set_cons_zero, List.set_cons_succ]
            refine wpAnyH_ready (rs := [4]) (by kernel_rfl) (by simp) ?_
            refine AllReadyH.cons (o := ({ dst := some 49, op := Op.call { callee := Callee.value (Operand.func 26), args := #[Operand.tmp 45, Operand.tmp 48], argTypes := #[44, 5] }, type := 4, pos := "ref.go:153", after := #[{ on := 0, ground := Ground.data }, { on := 3, ground := Ground.data }], guard := none } : Oper)) rfl (fun K hK => ?_) AllReadyH.nil
            go_simp
            (with_reducible refine HW.out.mono ?_)
            rintro e w3 ⟨rfl, hb3⟩
            have HB3 := Lib.hid (HTR.out _ _ HB0.out hb3)
            clear hb3
            go_wp2_with fail
            refine hK.out _ _ ((HSS.out _ HB3.out).1) (fun hHeld => ?_)
            clear hK K
            try simp only [Act.put, List.setIfInBounds_toArray, List.set_cons_zero, List.set_cons_succ]
            refine wpAnyH_take (i := 5) (oi := ({ dst := some 50, op := Op.unOp UnOp.not 4 (Operand.tmp 49), type := 4, pos := "ref.go:153", after := #[{ on := 4, ground := Ground.data }], guard := none } : Oper)) (v := .bool true) rfl (by kernel_rfl) (by kernel_rfl) (by kernel_rfl) (fun _ _ _ h => h) (Or.inl ⟨by rfl, fun w hSw => by go_simp⟩) hHeld ?_
            simp only [Act.put, List.setIfInBounds_toArray, List.set_cons_zero, List.set_cons_succ]
            refine wpAnyH_done (by kernel_rfl) ?_ _
            have HBF := Lib.hid (HWR.out _ HB3.out)
            clear hHeld hix
            go_wp2_with fail
            go_ret2
            exact ⟨rfl, HBF.out⟩
          | true =>
            go_wp2_with fail
            refine wp_region_held (S := fun u => (loadVar 44 ⟨w.heap.size, 0, none⟩).run Try.prog u = .ok (.agg C) u) (by kernel_rfl) ?_
            change wpAnyH _ _ _ _ _ _ _ _ (World.drew _)
            have hHeld := (HSS.out _ HB0.out).1
            refine wpAnyH_take (i := 0) (oi := ({ dst := some 45, op := Op.load 44 (Operand.tmp 1), type := 44, pos := "ref.go:153", after := #[], guard := none } : Oper)) (v := .agg C) rfl (by kernel_rfl) (by kernel_rfl) (by kernel_rfl) (fun _ _ _ h => h) (Or.inl ⟨by rfl, fun w hSw => by go_simp⟩) hHeld ?_
            simp only [Act.put, List.setIfInBounds_toArray, List.set_cons_zero, List.set_cons_succ]
            refine wpAnyH_take (i := 1) (oi := ({ dst := some 46, op := Op.move (Operand.tmp 4), type := 9, pos := "ref.go:153", after := #[], guard := none } : Oper)) (v := .string U) rfl (by kernel_rfl) (by kernel_rfl) (by kernel_rfl) (fun _ _ _ h => h) (Or.inl ⟨by rfl, fun w hSw => by go_simp⟩) hHeld ?_
            simp only [Act.put, List.setIfInBounds_toArray, List.set_cons_zero, List.set_cons_succ]
            refine wpAnyH_take (i := 2) (oi := ({ dst := some 47, op := Op.move (Operand.tmp 8), type := 3, pos := "ref.go:153", after := #[], guard := none } : Oper)) (v := .int .i64 (k : Int)) rfl (by kernel_rfl) (by kernel_rfl) (by kernel_rfl) (fun _ _ _ h => h) (Or.inl ⟨by rfl, fun w hSw => by go_simp⟩) hHeld ?_
            simp only [Act.put, List.setIfInBounds_toArray, List.set_cons_zero, List.set_cons_succ]
            refine wpAnyH_take (i := 3) (oi := ({ dst := some 48, op := Op.index 9 (Operand.tmp 46) (Operand.tmp 47), type := 5, pos := "ref.go:153", after := #[{ on := 1, ground := Ground.data }, { on := 2, ground := Ground.data }], guard := none } : Oper)) (v := .int .u8 ch) rfl (by kernel_rfl) (by kernel_rfl) (by kernel_rfl) (fun _ _ _ h => h) (Or.inl ⟨by rfl, fun w hSw => by go_simp⟩) hHeld ?_
            simp only [Act.put, List.setIfInBounds_toArray, List.set_cons_zero, List.set_cons_succ]
            refine wpAnyH_ready (rs := [4]) (by kernel_rfl) (by simp) ?_
            refine AllReadyH.cons (o := ({ dst := some 49, op := Op.call { callee := Callee.value (Operand.func 26), args := #[Operand.tmp 45, Operand.tmp 48], argTypes := #[44, 5] }, type := 4, pos := "ref.go:153", after := #[{ on := 0, ground := Ground.data }, { on := 3, ground := Ground.data }], guard := none } : Oper)) rfl (fun K hK => ?_) AllReadyH.nil
            go_simp
            (with_reducible refine HW.out.mono ?_)
            rintro e w3 ⟨rfl, hb3⟩
            have HB3 := Lib.hid (HTR.out _ _ HB0.out hb3)
            clear hb3
            go_wp2_with fail
            refine hK.out _ _ ((HSS.out _ HB3.out).1) (fun hHeld => ?_)
            clear hK K
            try simp only [Act.put, List.setIfInBounds_toArray, List.set_cons_zero, List.set_cons_succ]
            refine wpAnyH_take (i := 5) (oi := ({ dst := some 50, op := Op.unOp UnOp.not 4 (Operand.tmp 49), type := 4, pos := "ref.go:153", after := #[{ on := 4, ground := Ground.data }], guard := none } : Oper)) (v := .bool false) rfl (by kernel_rfl) (by kernel_rfl) (by kernel_rfl) (fun _ _ _ h => h) (Or.inl ⟨by rfl, fun w hSw => by go_simp⟩) hHeld ?_
            simp only [Act.put, List.setIfInBounds_toArray, List.set_cons_zero, List.set_cons_succ]
            refine wpAnyH_done (by kernel_rfl) ?_ _
            have HB3D := Lib.hid (HDR.out _ HB3.out)
            have HP := Lib.hid (HP0.out w3.drew HB3D.out HFF.out)
            have hXl := putB_len HWF.out f HFF.out
            have hX5 : (strOfNums (putB m f)).size ≤ 170000 := by
              rw [strOfNums_size]
              have : maxB f ≤ 170000 := by
                unfold maxB
                split <;> decide
              omega
            have HSX := Lib.hid (show s ++ strOfNums (putB m f) = strOfNums (digs 1 m.kind.toNat ++ ((fieldsM q).take (k + 1)).flatMap (putB m)) by
              rw [HMEM.out.2, List.flatMap_append, ← List.append_assoc, str_append, HS.out]
              simp)
            obtain ⟨X, hX⟩ : ∃ X, strOfNums (putB m f) = X := ⟨_, rfl⟩
            rw [hX] at HP hX5 HSX
            have g1 : (9223372036854775807 < s.size + X.size) = False := eq_false (by have := HSL.out; omega)
            clear hHeld hXl hX5 hX
            go_wp2_with fail
            refine wp_region_held (S := fun u => (loadVar 44 ⟨w.heap.size, 0, none⟩).run Try.prog u = .ok (.agg C) u) (by kernel_rfl) ?_
            change wpAnyH _ _ _ _ _ _ _ _ (World.drew _)
            have hHeld := (HSS.out _ HB3D.out).1
            refine wpAnyH_take (i := 0) (oi := ({ dst := some 51, op := Op.move (Operand.tmp 7), type := 9, pos := "ref.go:156", after := #[], guard := none } : Oper)) (v := .string s) rfl (by kernel_rfl) (by kernel_rfl) (by kernel_rfl) (fun _ _ _ h => h) (Or.inl ⟨by rfl, fun w hSw => by go_simp⟩) hHeld ?_
            simp only [Act.put, List.setIfInBounds_toArray, List.set_cons_zero, List.set_cons_succ]
            refine wpAnyH_take (i := 1) (oi := ({ dst := some 52, op := Op.load 44 (Operand.tmp 1), type := 44, pos := "ref.go:156", after := #[], guard := none } : Oper)) (v := .agg C) rfl (by kernel_rfl) (by kernel_rfl) (by kernel_rfl) (fun _ _ _ h => h) (Or.inl ⟨by rfl, fun w hSw => by go_simp⟩) hHeld ?_
            simp only [Act.put, List.setIfInBounds_toArray, List.set_cons_zero, List.set_cons_succ]
            refine wpAnyH_take (i := 2) (oi := ({ dst := some 53, op := Op.move (Operand.tmp 4), type := 9, pos := "ref.go:156", after := #[], guard := none } : Oper)) (v := .string U) rfl (by kernel_rfl) (by kernel_rfl) (by kernel_rfl) (fun _ _ _ h => h) (Or.inl ⟨by rfl, fun w hSw => by go_simp⟩) hHeld ?_
            simp only [Act.put, List.setIfInBounds_toArray, List.set_cons_zero, List.set_cons_succ]
            refine wpAnyH_take (i := 3) (oi := ({ dst := some 54, op := Op.move (Operand.tmp 8), type := 3, pos := "ref.go:156", after := #[], guard := none } : Oper)) (v := .int .i64 (k : Int)) rfl (by kernel_rfl) (by kernel_rfl) (by kernel_rfl) (fun _ _ _ h => h) (Or.inl ⟨by rfl, fun w hSw => by go_simp⟩) hHeld ?_
            simp only [Act.put, List.setIfInBounds_toArray, List.set_cons_zero, List.set_cons_succ]
            refine wpAnyH_take (i := 4) (oi := ({ dst := some 55, op := Op.index 9 (Operand.tmp 53) (Operand.tmp 54), type := 5, pos := "ref.go:156", after := #[{ on := 2, ground := Ground.data }, { on := 3, ground := Ground.data }], guard := none } : Oper)) (v := .int .u8 ch) rfl (by kernel_rfl) (by kernel_rfl) (by kernel_rfl) (fun _ _ _ h => h) (Or.inl ⟨by rfl, fun w hSw => by go_simp⟩) hHeld ?_
            simp only [Act.put, List.setIfInBounds_toArray, List.set_cons_zero, List.set_cons_succ]
            refine wpAnyH_ready (rs := [5]) (by kernel_rfl) (by simp) ?_
            refine AllReadyH.cons (o := ({ dst := some 56, op := Op.call { callee := Callee.value (Operand.func 27), args := #[Operand.tmp 52, Operand.tmp 55], argTypes := #[44, 5] }, type := 9, pos := "ref.go:156", after := #[{ on := 1, ground := Ground.data }, { on := 4, ground := Ground.data }], guard := none } : Oper)) rfl (fun K hK => ?_) AllReadyH.nil
            go_simp
            (with_reducible refine HP.out.mono ?_)
            rintro e w4 ⟨rfl, hb4⟩
            have HB4 := Lib.hid (HTR.out _ _ HB3D.out hb4)
            clear hb4
            go_wp2_with fail
            refine hK.out _ _ ((HSS.out _ HB4.out).1) (fun hHeld => ?_)
            clear hK K
            try simp only [Act.put, List.setIfInBounds_toArray, List.set_cons_zero, List.set_cons_succ]
            refine wpAnyH_take (i := 6) (oi := ({ dst := some 57, op := Op.binOp BinOp.add 9 (Operand.tmp 51) (Operand.tmp 56) 9, type := 9, pos := "ref.go:156", after := #[{ on := 0, ground := Ground.data }, { on := 5, ground := Ground.data }], guard := none } : Oper)) (v := .string (s ++ X)) rfl (by kernel_rfl) (by kernel_rfl) (by kernel_rfl) (fun _ _ _ h => h) (Or.inl ⟨by rfl, fun w hSw => by go_simp⟩) hHeld ?_
            simp only [Act.put, List.setIfInBounds_toArray, List.set_cons_zero, List.set_cons_succ]
            refine wpAnyH_take (i := 7) (oi := ({ dst := some 7, op := Op.assign (Operand.tmp 57), type := 9, pos := "ref.go:156", after := #[{ on := 6, ground := Ground.data }, { on := 5, ground := Ground.chain }, { on := 0, ground := Ground.phase }, { on := 1, ground := Ground.phase }, { on := 2, ground := Ground.phase }, { on := 3, ground := Ground.phase }, { on := 4, ground := Ground.phase }, { on := 5, ground := Ground.phase }, { on := 6, ground := Ground.phase }], guard := none } : Oper)) (v := .string (s ++ X)) rfl (by kernel_rfl) (by kernel_rfl) (by kernel_rfl) (fun _ _ _ h => h) (Or.inl ⟨by rfl, fun w hSw => by go_simp⟩) hHeld ?_
            simp only [Act.put, List.setIfInBounds_toArray, List.set_cons_zero, List.set_cons_succ]
            refine wpAnyH_done (by kernel_rfl) ?_ _
            clear hHeld hix g1
            go_wp2_with fail
            go_roundw
            case rel => exact ⟨k + 1, by have := HLT.out; omega, by rw [wk], _, rfl, Lib.hid ⟨HSX.out, HB4.out, fun x hx => by
              rw [HMEM.out.2] at hx
              rcases List.mem_append.1 hx with hx | hx
              · exact HALL.out x hx
              · obtain rfl : x = f := by simpa using hx
                exact HFF.out⟩⟩
            case measure => exact meas_n HLT.out wk
        · have hkn : k = nf := by omega
          obtain ⟨hs, hb, hall⟩ := H.out
          rw [hkn, ← HNF.out, List.take_length] at hs hall
          have hE : E = 0 := by rw [← HE.out]; unfold bytesME; rw [HQ.out, if_neg (by have := HK1.out; have := HK9.out; omega), ← HQ.out, HNB.out, if_neg (by decide), big_all (by rw [HQ.out]; exact hall), if_neg (by decide)]
          have hV : V = s := by rw [HVV.out, if_pos hE, hs, ← HQ.out]; rfl
          have b1 : decide ((k : Int) < (nf : Int)) = false := decide_eq_false (by omega)
          have b2 : (k < nf) = False := eq_false (by omega)
          have HBF := Lib.hid (HWR.out _ hb)
          clear hs hb hall HE HVV H hlt hkn
          subst hE
          subst hV
          go_wp2_with fail
          go_ret2
          exact ⟨rfl, HBF.out⟩
end Go.Proofs.Ytfcmdhimlfoofaa.Hand

