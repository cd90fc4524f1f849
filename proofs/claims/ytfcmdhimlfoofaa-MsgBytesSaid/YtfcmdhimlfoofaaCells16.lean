/- Hashes, headers, entries and messages in memory: their cells, as elements of rows. -/
import Derived.Test.YtfcmdhimlfoofaaProg
import Derived.Below
import Derived.Deep.Draws
import Derived.Deep.AppendLies
import Derived.Maps.AppendAt
import Derived.OwnWalk
import Derived.Laws.BytesArg
import Derived.Laws.MakeOwn
import Derived.Laws.OwnMore
import Derived.Deep.OwnRows
import Derived.Tactics
import Derived.Lib.ConvBytes
import Derived.Laws.Slices
import Derived.WalkKit
import Derived.KernelRfl
import Derived.RowKit3
import Derived.Deep.LoopGhost
import Derived.Deep.QuietTactic
import Derived.BigQuiet
import Derived.WideLaws
import Derived.Deep.DeepCutAuto
import Derived.Deep.CutBlock
import Derived.Deep.RegionHeld3
import Derived.Laws.Rows
import Derived.Lib.AppendStr
import Derived.ArgAppend
import Derived.Laws.IdiomCopy
import Derived.OrdersHeld
import Derived.Laws.BitsLemmas
import Derived.RowKit
import Derived.StillTailTactics
import Derived.Test.YtfcmdhimlfoofaaWWords
import Derived.Test.YtfcmdhimlfoofaaWLast
import Derived.Test.YtfcmdhimlfoofaaWMore
import Derived.Lib.Hide
import Derived.Deep.MidRow
import Derived.Deep.WholeRow
import Derived.Test.YtfcmdhimlfoofaaWArr
import Derived.Test.YtfcmdhimlfoofaaArrays
import Derived.Test.YtfcmdhimlfoofaaArrEq
import Derived.Test.YtfcmdhimlfoofaaCells
import Derived.Test.YtfcmdhimlfoofaaMsgPlain
namespace Go.Proofs.Ytfcmdhimlfoofaa.Hand
open Go Go.RowKit Go.Proofs.Ytfcmdhimlfoofaa.Plain Go.Proofs.YtfcmdhimlfoofaaW.PrintWords Go.Proofs.YtfcmdhimlfoofaaW.PrintLast Go.Proofs.YtfcmdhimlfoofaaW.PrintMore
set_option linter.unusedVariables false
set_option linter.unusedSimpArgs false
set_option maxRecDepth 100000
/-- A hash of a list, by its place. -/
def rdH (xs : List (List Int)) (i : Nat) : List Int := xs.getD i z32m
theorem rdH_eq {xs : List (List Int)} {i : Nat} (h : i < xs.length) : rdH xs i = xs[i] := by
  unfold rdH
  rw [List.getD_eq_getElem?_getD, List.getElem?_eq_getElem h]
  rfl
/-- A hash, as an element of a row. -/
abbrev kH : Kd (List Int) := Kd.arr 32 (Kd.int .u8) (by decide)
theorem kH_sz : kH.sz = 32 := rfl
theorem kH_M {w : World} {base : Nat} {ok : Nat → Prop} {p : List Int} (h : p.length = 32) : kH.M w base ok p (nums .u8 p) := Kd.arr_of_cells h
theorem kH_K {w : World} {p : List Int} {cs : List Value} (h : kH.K w p cs) : p.length = 32 ∧ cs = nums .u8 p := Kd.arr_cells h
theorem kH_of {w : World} {p : List Int} (h : p.length = 32) : kH.K w p (nums .u8 p) := kH.K_of_M (kH_M (base := 0) (ok := fun _ => True) h)
theorem addr_of_cell {w : World} {ad : Addr} {v : Value} (h : w.cell? ad = some v) : ad = ⟨ad.block, ad.off, none⟩ := by
  obtain ⟨b, o, s⟩ := ad
  cases s with
  | none => rfl
  | some s =>
    unfold World.cell? at h
    split at h
    · simp at h
    · cases h
theorem nums_len (k : IntKind) (l : List Int) : (nums k l).length = l.length := by simp [nums]
/-- The hashes of a row that is read. -/
theorem C_hash {w : World} {A : Option Addr} {xs : List (List Int)} (h : Kd.C kH w A xs.length xs) (h0 : 0 < xs.length) : ∃ b o, A = some ⟨b, o, none⟩ ∧ b < w.heap.size ∧ ∀ i, i < xs.length → w.rangeAt b (o + i * 32) (nums .u8 (rdH xs i)) ∧ (rdH xs i).length = 32 := by
  obtain ⟨_, _, h3⟩ := h
  obtain ⟨ad, e, hc⟩ := h3 h0
  have hall : ∀ i, i < xs.length → ∀ (j : Nat) v, (nums .u8 (rdH xs i))[j]? = some v → w.cell? (ad.add (i * 32 + j)) = some v := by
    intro i hi j v hj
    obtain ⟨c, hl, hK, hcell⟩ := hc i xs[i] (List.getElem?_eq_getElem hi)
    obtain ⟨h32, rfl⟩ := kH_K hK
    rw [rdH_eq hi] at hj
    exact hcell j v hj
  have hlen : ∀ i, i < xs.length → (rdH xs i).length = 32 := by
    intro i hi
    obtain ⟨c, hl, hK, hcell⟩ := hc i xs[i] (List.getElem?_eq_getElem hi)
    rw [rdH_eq hi]
    exact (kH_K hK).1
  have hz : w.cell? ad = some (.int .u8 (rd (rdH xs 0) 0)) := by
    have := hall 0 h0 0 (.int .u8 (rd (rdH xs 0) 0)) (by
      have h32 := hlen 0 h0
      simp [nums, rd, List.getElem?_eq_getElem (show 0 < (rdH xs 0).length by omega)])
    simpa [Addr.add] using this
  have had := addr_of_cell hz
  refine ⟨ad.block, ad.off, by rw [e]; exact congrArg some had, block_lt_of_cell hz, fun i hi => ⟨fun j v hj => ?_, hlen i hi⟩⟩
  have h2 := hall i hi j v hj
  rw [had, Addr.add_mid] at h2
  rw [Nat.add_assoc]
  exact h2
/-- A row of hashes out of its cells. -/
theorem C_of_ranges {w : World} {b o : Nat} {xs : List (List Int)} (h : ∀ i, i < xs.length → w.rangeAt b (o + i * 32) (nums .u8 (rdH xs i))) (h32 : ∀ p ∈ xs, p.length = 32) (hm : xs.length ≤ 9223372036854775807) : Kd.C kH w (some ⟨b, o, none⟩) xs.length xs := by
  refine ⟨rfl, hm, fun _ => ⟨⟨b, o, none⟩, rfl, fun i p hi => ?_⟩⟩
  obtain ⟨hl, rfl⟩ := List.getElem?_eq_some_iff.1 hi
  refine ⟨nums .u8 xs[i], by rw [nums_len]; exact h32 _ (List.getElem_mem hl), kH_of (h32 _ (List.getElem_mem hl)), fun j v hj => ?_⟩
  rw [Addr.add_mid]
  have := h i hl j v (by rw [rdH_eq hl]; exact hj)
  rw [Nat.add_assoc] at this
  exact this
/-- A block of hashes. -/
def hcs (xs : List (List Int)) : List Value := (xs.map (nums .u8)).flatten
theorem hcs_len {xs : List (List Int)} (h : ∀ p ∈ xs, p.length = 32) : (hcs xs).length = xs.length * 32 := by
  induction xs with
  | nil => rfl
  | cons p xs ih =>
    have h1 := h p (by simp)
    have h2 := ih (fun q hq => h q (by simp [hq]))
    simp only [hcs, List.map_cons, List.flatten_cons, List.length_append, nums_len, List.length_cons] at *
    omega
theorem hcs_get {xs : List (List Int)} (h : ∀ p ∈ xs, p.length = 32) : ∀ (i j : Nat) v, i < xs.length → (nums .u8 (rdH xs i))[j]? = some v → (hcs xs)[i * 32 + j]? = some v := by
  induction xs with
  | nil => intro i j v hi; simp at hi
  | cons p xs ih =>
    intro i j v hi hj
    have h1 := h p (by simp)
    have hlt := (List.getElem?_eq_some_iff.1 hj).1
    have e : hcs (p :: xs) = nums .u8 p ++ hcs xs := rfl
    rw [e]
    cases i with
    | zero =>
      have hj2 : (nums .u8 p)[j]? = some v := hj
      rw [Nat.zero_mul, Nat.zero_add, List.getElem?_append_left (List.getElem?_eq_some_iff.1 hj2).1]
      exact hj2
    | succ i =>
      have hj2 : (nums .u8 (rdH xs i))[j]? = some v := by simpa [rdH] using hj
      rw [List.getElem?_append_right (by rw [nums_len, h1]; omega), nums_len, h1, show (i + 1) * 32 + j - 32 = i * 32 + j by omega]
      exact ih (fun q hq => h q (by simp [hq])) i j v (by simpa using hi) hj2
theorem C_of_hcs {w : World} {b : Nat} {t : TypeId} {fr : Nat × Nat} {xs : List (List Int)} (hb : w.heap[b]? = some (.cells (hcs xs).toArray t fr)) (h32 : ∀ p ∈ xs, p.length = 32) (hm : xs.length ≤ 9223372036854775807) : Kd.C kH w (some ⟨b, 0, none⟩) xs.length xs := by
  refine C_of_ranges (fun i hi j v hj => ?_) h32 hm
  rw [cell_of_row w b _ _ t fr hb, List.getElem?_toArray, Nat.zero_add]
  exact hcs_get h32 i j v hi hj

theorem eqH (S T : List Int) (hS : S.length = 32) (hT : T.length = 32) (w : World) : (Op.equalIn 10000 28 (.agg (nums .u8 S).toArray) (.agg (nums .u8 T).toArray)).run Try.prog w = .ok (S == T) w :=
  run_equalIn_nums (P := Try.prog) w 9998 28 5 32 .u8 Try.underlying28 Try.underlying5 (fun w => by rfl) S T hS hT
/-- A header, an entry, a message as kinds. -/
def kHd : Kd HT := Kd.iso (Kd.pair (Kd.int .u32) (Kd.pair kH (Kd.pair kH (Kd.pair (Kd.int .u32) (Kd.pair (Kd.int .u32) (Kd.int .u32)))))) fun x => (x.v, x.p, x.r, x.t, x.b, x.n)
def kE : Kd ET := Kd.iso (Kd.pair (Kd.slice 5 (Kd.int .u8)) (Kd.pair (Kd.int .i64) (Kd.pair (Kd.int .i64) (Kd.slice 28 kH)))) fun x => (x.tx, x.cnt, x.idx, x.path)
theorem kHd_sz : kHd.sz = 68 := rfl
theorem kE_sz : kE.sz = 4 := rfl
/-- Where a message's rows lie. -/
structure MA where
  la : Option Addr
  lc : Nat
  ha : Option Addr
  hc : Nat
  ia : Option Addr
  ic : Nat
  da : Option Addr
  dc : Nat
  ea : Option Addr
  ec : Nat
def mcells (a : MA) (m : MT) : List Value := .int .i64 m.kind :: .slice a.la m.loc.length a.lc :: (nums .u8 m.stop ++ (.slice a.ha m.heads.length a.hc :: (nums .u8 m.block ++ [.slice a.ia m.item.length a.ic, .slice a.da m.data.length a.dc, .slice a.ea m.ents.length a.ec, .int .u64 m.nonce, .int .i64 m.of_, .int .i64 m.code])))
def mV (a : MA) (m : MT) : Value := .agg (mcells a m).toArray
/-- A message's rows are read. -/
structure MC (w : World) (a : MA) (m : MT) : Prop where
  loc : Kd.C kH w a.la m.loc.length m.loc
  lc : m.loc.length ≤ a.lc
  heads : Kd.C kHd w a.ha m.heads.length m.heads
  hc : m.heads.length ≤ a.hc
  item : Kd.C (Kd.int .u8) w a.ia m.item.length m.item
  ic : m.item.length ≤ a.ic
  data : Kd.C (Kd.int .u8) w a.da m.data.length m.data
  dc : m.data.length ≤ a.dc
  ents : Kd.C kE w a.ea m.ents.length m.ents
  ec : m.ents.length ≤ a.ec
theorem MC.below {w w1 : World} {a : MA} {m : MT} (h : MC w a m) (hb : Below w.heap.size w w1) : MC w1 a m :=
  ⟨Kd.C_below h.loc hb, h.lc, Kd.C_below h.heads hb, h.hc, Kd.C_below h.item hb, h.ic, Kd.C_below h.data hb, h.dc, Kd.C_below h.ents hb, h.ec⟩
theorem mcells_len (a : MA) (m : MT) (hs : m.stop.length = 32) (hb : m.block.length = 32) : (mcells a m).length = 73 := by
  simp [mcells, nums, hs, hb]
theorem mcells_at (a : MA) (m : MT) (hs : m.stop.length = 32) (hb : m.block.length = 32) : (mcells a m).toArray[0]? = some (.int .i64 m.kind) ∧ (mcells a m).toArray[1]? = some (.slice a.la m.loc.length a.lc) ∧ (mcells a m).toArray[34]? = some (.slice a.ha m.heads.length a.hc) ∧ (mcells a m).toArray[67]? = some (.slice a.ia m.item.length a.ic) ∧ (mcells a m).toArray[68]? = some (.slice a.da m.data.length a.dc) ∧ (mcells a m).toArray[69]? = some (.slice a.ea m.ents.length a.ec) ∧ (mcells a m).toArray[70]? = some (.int .u64 m.nonce) ∧ (mcells a m).toArray[71]? = some (.int .i64 m.of_) ∧ (mcells a m).toArray[72]? = some (.int .i64 m.code) := by
  obtain ⟨kind, loc, stop, heads, block, item, data, ents, nonce, of_, code⟩ := m
  simp only at hs hb
  obtain ⟨x0, x1, x2, x3, x4, x5, x6, x7, x8, x9, x10, x11, x12, x13, x14, x15, x16, x17, x18, x19, x20, x21, x22, x23, x24, x25, x26, x27, x28, x29, x30, x31, rfl⟩ := list32 stop hs
  obtain ⟨y0, y1, y2, y3, y4, y5, y6, y7, y8, y9, y10, y11, y12, y13, y14, y15, y16, y17, y18, y19, y20, y21, y22, y23, y24, y25, y26, y27, y28, y29, y30, y31, rfl⟩ := list32 block hb
  exact ⟨rfl, rfl, rfl, rfl, rfl, rfl, rfl, rfl, rfl⟩
/-- A message's box: its fields. -/
structure MBox (w : World) (bx : Nat) (a : MA) (m : MT) : Prop where
  blk : w.heap[bx]? = some (.cells (mcells a m).toArray 33 (0, 0))
  s32 : m.stop.length = 32
  b32 : m.block.length = 32
theorem MBox.below {w w1 : World} {bx : Nat} {a : MA} {m : MT} (h : MBox w bx a m) (hb : Below w.heap.size w w1) : MBox w1 bx a m := ⟨(hb.block bx (blk_lt h.blk)).trans h.blk, h.s32, h.b32⟩
theorem range_of_block {w : World} {b o : Nat} {t : TypeId} {pre mid post : List Value} (hb : w.heap[b]? = some (.cells (pre ++ (mid ++ post)).toArray t (0, 0))) (ho : pre.length = o) : w.rangeAt b o mid := by
  intro j v hj
  rw [blk_cell hb, List.getElem?_toArray, List.getElem?_append_right (by omega), ho, Nat.add_sub_cancel_left, List.getElem?_append_left (List.getElem?_eq_some_iff.1 hj).1]
  exact hj
theorem MBox.cells {w : World} {bx : Nat} {a : MA} {m : MT} (h : MBox w bx a m) : w.cell? ⟨bx, 0, none⟩ = some (.int .i64 m.kind) ∧ w.cell? ⟨bx, 1, none⟩ = some (.slice a.la m.loc.length a.lc) ∧ w.cell? ⟨bx, 34, none⟩ = some (.slice a.ha m.heads.length a.hc) ∧ w.cell? ⟨bx, 67, none⟩ = some (.slice a.ia m.item.length a.ic) ∧ w.cell? ⟨bx, 68, none⟩ = some (.slice a.da m.data.length a.dc) ∧ w.cell? ⟨bx, 69, none⟩ = some (.slice a.ea m.ents.length a.ec) ∧ w.cell? ⟨bx, 70, none⟩ = some (.int .u64 m.nonce) ∧ w.cell? ⟨bx, 71, none⟩ = some (.int .i64 m.of_) ∧ w.cell? ⟨bx, 72, none⟩ = some (.int .i64 m.code) := by
  obtain ⟨h0, h1, h2, h3, h4, h5, h6, h7, h8⟩ := mcells_at a m h.s32 h.b32
  have hb := h.blk
  exact ⟨(blk_cell hb _).trans h0, (blk_cell hb _).trans h1, (blk_cell hb _).trans h2, (blk_cell hb _).trans h3, (blk_cell hb _).trans h4, (blk_cell hb _).trans h5, (blk_cell hb _).trans h6, (blk_cell hb _).trans h7, (blk_cell hb _).trans h8⟩
theorem MBox.stop {w : World} {bx : Nat} {a : MA} {m : MT} (h : MBox w bx a m) : w.rangeAt bx 2 (nums .u8 m.stop) := by
  have hb := h.blk
  refine range_of_block (pre := [.int .i64 m.kind, .slice a.la m.loc.length a.lc]) hb rfl
theorem MBox.block {w : World} {bx : Nat} {a : MA} {m : MT} (h : MBox w bx a m) : w.rangeAt bx 35 (nums .u8 m.block) := by
  have hb := h.blk
  refine range_of_block (pre := .int .i64 m.kind :: .slice a.la m.loc.length a.lc :: (nums .u8 m.stop ++ [.slice a.ha m.heads.length a.hc])) (mid := nums .u8 m.block) (post := [.slice a.ia m.item.length a.ic, .slice a.da m.data.length a.dc, .slice a.ea m.ents.length a.ec, .int .u64 m.nonce, .int .i64 m.of_, .int .i64 m.code]) (t := 33) ?_ (by simp [nums, h.s32])
  rw [hb]
  simp [mcells]
theorem MBox.stopC {w : World} {bx : Nat} {a : MA} {m : MT} (h : MBox w bx a m) : Kd.C (Kd.int .u8) w (some ⟨bx, 2, none⟩) 32 m.stop := by
  have hb := h.blk
  have := C_of_block (pre := [.int .i64 m.kind, .slice a.la m.loc.length a.lc]) (k := .u8) (ys := m.stop) (o := 2) hb rfl (by have := h.s32; omega)
  rwa [h.s32] at this
theorem MBox.blockC {w : World} {bx : Nat} {a : MA} {m : MT} (h : MBox w bx a m) : Kd.C (Kd.int .u8) w (some ⟨bx, 35, none⟩) 32 m.block := by
  have hb := h.blk
  have := C_of_block (pre := .int .i64 m.kind :: .slice a.la m.loc.length a.lc :: (nums .u8 m.stop ++ [.slice a.ha m.heads.length a.hc])) (post := [.slice a.ia m.item.length a.ic, .slice a.da m.data.length a.dc, .slice a.ea m.ents.length a.ec, .int .u64 m.nonce, .int .i64 m.of_, .int .i64 m.code]) (k := .u8) (ys := m.block) (o := 35) (w := w) (b := bx) (t := 33) (fr := (0, 0)) (by rw [hb]; simp [mcells]) (by simp [nums, h.s32]) (by have := h.b32; omega)
  rwa [h.b32] at this
/-- An entry of a row that is read. -/
def zE : ET := ⟨[], 0, 0, []⟩
def rdE (xs : List ET) (i : Int) : ET := xs.getD i.toNat zE
theorem kE_open {w : World} {x : ET} {cs : List Value} (h : kE.K w x cs) : ∃ A c A' c', cs = [.slice A x.tx.length c, .int .i64 x.cnt, .int .i64 x.idx, .slice A' x.path.length c'] ∧ x.tx.length ≤ c ∧ Kd.C (Kd.int .u8) w A x.tx.length x.tx ∧ x.path.length ≤ c' ∧ Kd.C kH w A' x.path.length x.path := by
  obtain ⟨_, _, rfl, ⟨A, c, rfl, hl, hC⟩, ⟨_, _, rfl, rfl, ⟨_, _, rfl, rfl, ⟨A', c', rfl, hl', hC'⟩⟩⟩⟩ := h
  exact ⟨A, c, A', c', rfl, hl, hC, hl', hC'⟩
theorem at_E {w : World} {A : Option Addr} {n : Nat} {xs : List ET} (h : Kd.C kE w A n xs) (i : Int) (h0 : 0 ≤ i) (h1 : i < n) : ∃ ad A1 c1 A2 c2, A = some ad ∧ w.cell? (ad.add (i.toNat * 4)) = some (.slice A1 (rdE xs i).tx.length c1) ∧ w.cell? ⟨(ad.add (i.toNat * 4)).block, (ad.add (i.toNat * 4)).off + 1, none⟩ = some (.int .i64 (rdE xs i).cnt) ∧ w.cell? ⟨(ad.add (i.toNat * 4)).block, (ad.add (i.toNat * 4)).off + 2, none⟩ = some (.int .i64 (rdE xs i).idx) ∧ w.cell? ⟨(ad.add (i.toNat * 4)).block, (ad.add (i.toNat * 4)).off + 3, none⟩ = some (.slice A2 (rdE xs i).path.length c2) ∧ (rdE xs i).tx.length ≤ c1 ∧ Kd.C (Kd.int .u8) w A1 (rdE xs i).tx.length (rdE xs i).tx ∧ (rdE xs i).path.length ≤ c2 ∧ Kd.C kH w A2 (rdE xs i).path.length (rdE xs i).path := by
  obtain ⟨ad, c, e, _, hK, hc0⟩ := Kd.C_get h zE i h0 h1
  have hc : ∀ j u, c[j]? = some u → w.cell? (ad.add (i.toNat * 4 + j)) = some u := hc0
  obtain ⟨A1, c1, A2, c2, rfl, hl, hC, hl', hC'⟩ := kE_open hK
  exact ⟨ad, A1, c1, A2, c2, e, hc 0 _ rfl, by rw [← add_field _ _ 1 (by omega)]; exact hc 1 _ rfl, by rw [← add_field _ _ 2 (by omega)]; exact hc 2 _ rfl, by rw [← add_field _ _ 3 (by omega)]; exact hc 3 _ rfl, hl, hC, hl', hC'⟩
theorem rdE_eq {xs : List ET} {i : Int} (h0 : 0 ≤ i) (h1 : i < (xs.length : Int)) : ∃ h : i.toNat < xs.length, rdE xs i = xs[i.toNat] := by
  refine ⟨by omega, ?_⟩
  unfold rdE
  rw [List.getD_eq_getElem?_getD, List.getElem?_eq_getElem (by omega)]
  rfl
theorem rdE_mem {xs : List ET} {i : Int} (h0 : 0 ≤ i) (h1 : i < (xs.length : Int)) : rdE xs i ∈ xs := by
  obtain ⟨h, e⟩ := rdE_eq h0 h1
  rw [e]
  exact List.getElem_mem _
theorem takeE {xs : List ET} {k : Int} (h0 : 0 ≤ k) (h1 : k < (xs.length : Int)) : xs.take (k + 1).toNat = xs.take k.toNat ++ [rdE xs k] := by
  obtain ⟨h, e⟩ := rdE_eq h0 h1
  rw [show (k + 1).toNat = k.toNat + 1 by omega, List.take_add_one, List.getElem?_eq_getElem h, e]
  rfl
/-- A header of a row that is read. -/
def zHd : HT := ⟨0, z32m, z32m, 0, 0, 0⟩
def rdHd (xs : List HT) (i : Nat) : HT := xs.getD i zHd
def hcT (x : HT) : List Value := hcells x.v x.p x.r x.t x.b x.n
theorem kHd_K {w : World} {x : HT} {cs : List Value} (h : kHd.K w x cs) : x.p.length = 32 ∧ x.r.length = 32 ∧ cs = hcT x := by
  obtain ⟨c0, c1, e0, k0, d1, d2, e1, k1, d3, d4, e2, k2, d5, d6, e3, k3, d7, d8, e4, k4, k5⟩ := h
  obtain ⟨lp, rfl⟩ := kH_K k1
  obtain ⟨lr, rfl⟩ := kH_K k2
  obtain rfl : c0 = [.int .u32 x.v] := k0
  obtain rfl : d5 = [.int .u32 x.t] := k3
  obtain rfl : d7 = [.int .u32 x.b] := k4
  obtain rfl : d8 = [.int .u32 x.n] := k5
  subst e4 e3 e2 e1
  exact ⟨lp, lr, e0⟩
theorem hcT_len {x : HT} (hp : x.p.length = 32) (hr : x.r.length = 32) : (hcT x).length = 68 := hcells_len _ _ _ _ _ _ hp hr
theorem rdHd_eq {xs : List HT} {i : Nat} (h : i < xs.length) : rdHd xs i = xs[i] := by
  unfold rdHd
  rw [List.getD_eq_getElem?_getD, List.getElem?_eq_getElem h]
  rfl
theorem C_heads {w : World} {A : Option Addr} {xs : List HT} (h : Kd.C kHd w A xs.length xs) (h0 : 0 < xs.length) : ∃ b o, A = some ⟨b, o, none⟩ ∧ b < w.heap.size ∧ ∀ i, i < xs.length → w.rangeAt b (o + i * 68) (hcT (rdHd xs i)) ∧ (rdHd xs i).p.length = 32 ∧ (rdHd xs i).r.length = 32 := by
  obtain ⟨_, _, h3⟩ := h
  obtain ⟨ad, e, hc⟩ := h3 h0
  have hall : ∀ i, i < xs.length → (rdHd xs i).p.length = 32 ∧ (rdHd xs i).r.length = 32 ∧ ∀ (j : Nat) v, (hcT (rdHd xs i))[j]? = some v → w.cell? (ad.add (i * 68 + j)) = some v := by
    intro i hi
    obtain ⟨c, hl, hK, hcell⟩ := hc i xs[i] (List.getElem?_eq_getElem hi)
    obtain ⟨hp, hr, rfl⟩ := kHd_K hK
    rw [rdHd_eq hi]
    exact ⟨hp, hr, fun j v hj => hcell j v hj⟩
  have hz : w.cell? ad = some (.int .u32 (rdHd xs 0).v) := by
    have := (hall 0 h0).2.2 0 (.int .u32 (rdHd xs 0).v) rfl
    simpa [Addr.add] using this
  have had := addr_of_cell hz
  refine ⟨ad.block, ad.off, by rw [e]; exact congrArg some had, block_lt_of_cell hz, fun i hi => ⟨fun j v hj => ?_, (hall i hi).1, (hall i hi).2.1⟩⟩
  have h2 := (hall i hi).2.2 j v hj
  rw [had, Addr.add_mid] at h2
  rw [Nat.add_assoc]
  exact h2
theorem takeHd {xs : List HT} {k : Int} (h0 : 0 ≤ k) (h1 : k < (xs.length : Int)) : (xs.take (k + 1).toNat).flatMap hdB = (xs.take k.toNat).flatMap hdB ++ hdB (rdHd xs k.toNat) := by
  have hk : k.toNat < xs.length := by omega
  rw [show (k + 1).toNat = k.toNat + 1 by omega, List.take_add_one, List.getElem?_eq_getElem hk, rdHd_eq hk]
  simp only [Option.toList, List.flatMap_append, List.flatMap_cons, List.flatMap_nil, List.append_nil]
end Go.Proofs.Ytfcmdhimlfoofaa.Hand
