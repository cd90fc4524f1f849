/- The document's message in memory: its cells. -/
import Derived.Test.YtfcmdhimlfoofaaProg
import Derived.Below
import Derived.Deep.Draws
import Derived.Deep.AppendLies
import Derived.Maps.AppendAt
import Derived.OwnWalk
import Derived.Laws.BytesArg
import Derived.Laws.MakeOwn
import Derived.Laws.OwnMore
import Derived.Deep.OwnRows
import Derived.Tactics
import Derived.Lib.ConvBytes
import Derived.Laws.Slices
import Derived.WalkKit
import Derived.KernelRfl
import Derived.RowKit3
import Derived.Deep.LoopGhost
import Derived.Deep.QuietTactic
import Derived.BigQuiet
import Derived.WideLaws
import Derived.Deep.DeepCutAuto
import Derived.Deep.CutBlock
import Derived.Deep.RegionHeld3
import Derived.Laws.Rows
import Derived.Lib.AppendStr
import Derived.ArgAppend
import Derived.Laws.IdiomCopy
import Derived.OrdersHeld
import Derived.Laws.BitsLemmas
import Derived.RowKit
import Derived.StillTailTactics
import Derived.Test.YtfcmdhimlfoofaaWWords
import Derived.Test.YtfcmdhimlfoofaaWLast
import Derived.Test.YtfcmdhimlfoofaaWMore
import Derived.Lib.Hide
import Derived.Deep.MidRow
import Derived.Deep.WholeRow
import Derived.Test.YtfcmdhimlfoofaaCells16
namespace Go.Proofs.Ytfcmdhimlfoofaa.Hand
open Go Go.RowKit Go.Proofs.Ytfcmdhimlfoofaa.Plain Go.Proofs.YtfcmdhimlfoofaaW.PrintWords Go.Proofs.YtfcmdhimlfoofaaW.PrintLast Go.Proofs.YtfcmdhimlfoofaaW.PrintMore
set_option linter.unusedVariables false
set_option linter.unusedSimpArgs false
set_option maxRecDepth 100000
/-- The document's entry, as a kind. -/
def kEr : Kd ET := Kd.iso (Kd.pair Kd.string (Kd.pair (Kd.int .i64) (Kd.pair (Kd.int .i64) (Kd.slice 27 kH)))) fun x => (strOfNums x.tx, x.cnt, x.idx, x.path)
theorem kEr_sz : kEr.sz = 4 := rfl
theorem kEr_open {w : World} {x : ET} {cs : List Value} (h : kEr.K w x cs) : ∃ A' c', cs = [.string (strOfNums x.tx), .int .i64 x.cnt, .int .i64 x.idx, .slice A' x.path.length c'] ∧ x.path.length ≤ c' ∧ Kd.C kH w A' x.path.length x.path := by
  obtain ⟨_, _, rfl, rfl, ⟨_, _, rfl, rfl, ⟨_, _, rfl, rfl, ⟨A', c', rfl, hl', hC'⟩⟩⟩⟩ := h
  exact ⟨A', c', rfl, hl', hC'⟩
theorem at_Er {w : World} {A : Option Addr} {n : Nat} {xs : List ET} (h : Kd.C kEr w A n xs) (i : Int) (h0 : 0 ≤ i) (h1 : i < n) : ∃ ad A2 c2, A = some ad ∧ w.cell? (ad.add (i.toNat * 4)) = some (.string (strOfNums (rdE xs i).tx)) ∧ w.cell? ⟨(ad.add (i.toNat * 4)).block, (ad.add (i.toNat * 4)).off + 1, none⟩ = some (.int .i64 (rdE xs i).cnt) ∧ w.cell? ⟨(ad.add (i.toNat * 4)).block, (ad.add (i.toNat * 4)).off + 2, none⟩ = some (.int .i64 (rdE xs i).idx) ∧ w.cell? ⟨(ad.add (i.toNat * 4)).block, (ad.add (i.toNat * 4)).off + 3, none⟩ = some (.slice A2 (rdE xs i).path.length c2) ∧ (rdE xs i).path.length ≤ c2 ∧ Kd.C kH w A2 (rdE xs i).path.length (rdE xs i).path := by
  obtain ⟨ad, c, e, _, hK, hc0⟩ := Kd.C_get h zE i h0 h1
  have hc : ∀ j u, c[j]? = some u → w.cell? (ad.add (i.toNat * 4 + j)) = some u := hc0
  obtain ⟨A2, c2, rfl, hl', hC'⟩ := kEr_open hK
  exact ⟨ad, A2, c2, e, hc 0 _ rfl, by rw [← add_field _ _ 1 (by omega)]; exact hc 1 _ rfl, by rw [← add_field _ _ 2 (by omega)]; exact hc 2 _ rfl, by rw [← add_field _ _ 3 (by omega)]; exact hc 3 _ rfl, hl', hC'⟩
structure RA where
  la : Option Addr
  lc : Nat
  ha : Option Addr
  hc : Nat
  ea : Option Addr
  ec : Nat
def rcells (a : RA) (m : MT) : List Value := .int .i64 m.kind :: .slice a.la m.loc.length a.lc :: (nums .u8 m.stop ++ (.slice a.ha m.heads.length a.hc :: (nums .u8 m.block ++ [.string (strOfNums m.item), .string (strOfNums m.data), .slice a.ea m.ents.length a.ec, .int .u64 m.nonce, .int .i64 m.of_, .int .i64 m.code])))
def rmV (a : RA) (m : MT) : Value := .agg (rcells a m).toArray
/-- The rows are read. -/
structure RC (w : World) (a : RA) (m : MT) : Prop where
  loc : Kd.C kH w a.la m.loc.length m.loc
  lc : m.loc.length ≤ a.lc
  heads : Kd.C kHd w a.ha m.heads.length m.heads
  hc : m.heads.length ≤ a.hc
  ents : Kd.C kEr w a.ea m.ents.length m.ents
  ec : m.ents.length ≤ a.ec
theorem RC.below {w w1 : World} {a : RA} {m : MT} (h : RC w a m) (hb : Below w.heap.size w w1) : RC w1 a m :=
  ⟨Kd.C_below h.loc hb, h.lc, Kd.C_below h.heads hb, h.hc, Kd.C_below h.ents hb, h.ec⟩
theorem rcells_len (a : RA) (m : MT) (hs : m.stop.length = 32) (hb : m.block.length = 32) : (rcells a m).length = 73 := by
  simp [rcells, nums, hs, hb]
theorem rcells_at (a : RA) (m : MT) (hs : m.stop.length = 32) (hb : m.block.length = 32) : (rcells a m).toArray[0]? = some (.int .i64 m.kind) ∧ (rcells a m).toArray[1]? = some (.slice a.la m.loc.length a.lc) ∧ (rcells a m).toArray[34]? = some (.slice a.ha m.heads.length a.hc) ∧ (rcells a m).toArray[67]? = some (.string (strOfNums m.item)) ∧ (rcells a m).toArray[68]? = some (.string (strOfNums m.data)) ∧ (rcells a m).toArray[69]? = some (.slice a.ea m.ents.length a.ec) ∧ (rcells a m).toArray[70]? = some (.int .u64 m.nonce) ∧ (rcells a m).toArray[71]? = some (.int .i64 m.of_) ∧ (rcells a m).toArray[72]? = some (.int .i64 m.code) := by
  obtain ⟨kind, loc, stop, heads, block, item, data, ents, nonce, of_, code⟩ := m
  simp only at hs hb
  obtain ⟨x0, x1, x2, x3, x4, x5, x6, x7, x8, x9, x10, x11, x12, x13, x14, x15, x16, x17, x18, x19, x20, x21, x22, x23, x24, x25, x26, x27, x28, x29, x30, x31, rfl⟩ := list32 stop hs
  obtain ⟨y0, y1, y2, y3, y4, y5, y6, y7, y8, y9, y10, y11, y12, y13, y14, y15, y16, y17, y18, y19, y20, y21, y22, y23, y24, y25, y26, y27, y28, y29, y30, y31, rfl⟩ := list32 block hb
  exact ⟨rfl, rfl, rfl, rfl, rfl, rfl, rfl, rfl, rfl⟩
/-- The message's box. -/
structure RBox (w : World) (bx : Nat) (a : RA) (m : MT) : Prop where
  blk : w.heap[bx]? = some (.cells (rcells a m).toArray 44 (0, 0))
  s32 : m.stop.length = 32
  b32 : m.block.length = 32
theorem RBox.below {w w1 : World} {bx : Nat} {a : RA} {m : MT} (h : RBox w bx a m) (hb : Below w.heap.size w w1) : RBox w1 bx a m := ⟨(hb.block bx (blk_lt h.blk)).trans h.blk, h.s32, h.b32⟩
theorem RBox.cells {w : World} {bx : Nat} {a : RA} {m : MT} (h : RBox w bx a m) : w.cell? ⟨bx, 0, none⟩ = some (.int .i64 m.kind) ∧ w.cell? ⟨bx, 1, none⟩ = some (.slice a.la m.loc.length a.lc) ∧ w.cell? ⟨bx, 34, none⟩ = some (.slice a.ha m.heads.length a.hc) ∧ w.cell? ⟨bx, 67, none⟩ = some (.string (strOfNums m.item)) ∧ w.cell? ⟨bx, 68, none⟩ = some (.string (strOfNums m.data)) ∧ w.cell? ⟨bx, 69, none⟩ = some (.slice a.ea m.ents.length a.ec) ∧ w.cell? ⟨bx, 70, none⟩ = some (.int .u64 m.nonce) ∧ w.cell? ⟨bx, 71, none⟩ = some (.int .i64 m.of_) ∧ w.cell? ⟨bx, 72, none⟩ = some (.int .i64 m.code) := by
  obtain ⟨h0, h1, h2, h3, h4, h5, h6, h7, h8⟩ := rcells_at a m h.s32 h.b32
  have hb := h.blk
  exact ⟨(blk_cell hb _).trans h0, (blk_cell hb _).trans h1, (blk_cell hb _).trans h2, (blk_cell hb _).trans h3, (blk_cell hb _).trans h4, (blk_cell hb _).trans h5, (blk_cell hb _).trans h6, (blk_cell hb _).trans h7, (blk_cell hb _).trans h8⟩
theorem RBox.stop {w : World} {bx : Nat} {a : RA} {m : MT} (h : RBox w bx a m) : w.rangeAt bx 2 (nums .u8 m.stop) := by
  have hb := h.blk
  refine range_of_block (pre := [.int .i64 m.kind, .slice a.la m.loc.length a.lc]) hb rfl
theorem RBox.block {w : World} {bx : Nat} {a : RA} {m : MT} (h : RBox w bx a m) : w.rangeAt bx 35 (nums .u8 m.block) := by
  have hb := h.blk
  refine range_of_block (pre := .int .i64 m.kind :: .slice a.la m.loc.length a.lc :: (nums .u8 m.stop ++ [.slice a.ha m.heads.length a.hc])) (mid := nums .u8 m.block) (post := [.string (strOfNums m.item), .string (strOfNums m.data), .slice a.ea m.ents.length a.ec, .int .u64 m.nonce, .int .i64 m.of_, .int .i64 m.code]) (t := 44) ?_ (by simp [nums, h.s32])
  rw [hb]
  simp [rcells]
theorem rcells_one (a : RA) (m : MT) : ∀ x ∈ rcells a m, x.oneCell' = true := by
  intro x hx
  simp only [rcells, List.mem_cons, List.mem_append, List.not_mem_nil, or_false] at hx
  rcases hx with rfl | rfl | hx | rfl | hx | rfl | rfl | rfl | rfl | rfl | rfl
  any_goals rfl
  all_goals exact nums_one _ _ _ hx
theorem mcells_one (a : MA) (m : MT) : ∀ x ∈ mcells a m, x.oneCell' = true := by
  intro x hx
  simp only [mcells, List.mem_cons, List.mem_append, List.not_mem_nil, or_false] at hx
  rcases hx with rfl | rfl | hx | rfl | hx | rfl | rfl | rfl | rfl | rfl | rfl
  any_goals rfl
  all_goals exact nums_one _ _ _ hx
def zMT : MT := ⟨0, [], z32m, [], z32m, [], [], [], 0, 0, 0⟩
def nilRA : RA := ⟨none, 0, none, 0, none, 0⟩
theorem infoRM : (Try.prog.info? 44).map (fun i => (i.zero, i.size)) = some (some (.agg (rcells nilRA zMT).toArray), 73) := by kernel_rfl
/-- The sign of a field. -/
def chM (f : Nat) : Nat := match f with
  | 0 => 108
  | 1 => 115
  | 2 => 104
  | 3 => 111
  | 4 => 98
  | 5 => 100
  | 6 => 105
  | 7 => 101
  | 8 => 110
  | _ => 99
end Go.Proofs.Ytfcmdhimlfoofaa.Hand
