/- Several texts in one. -/
import Derived.Test.YtfcmdhimlfoofaaProg
import Derived.Below
import Derived.Deep.Draws
import Derived.Deep.AppendLies
import Derived.Maps.AppendAt
import Derived.OwnWalk
import Derived.Laws.BytesArg
import Derived.Laws.MakeOwn
import Derived.Laws.OwnMore
import Derived.Deep.OwnRows
import Derived.Tactics
import Derived.Lib.ConvBytes
import Derived.Laws.Slices
import Derived.WalkKit
import Derived.KernelRfl
import Derived.RowKit3
import Derived.Deep.LoopGhost
import Derived.Deep.QuietTactic
import Derived.BigQuiet
import Derived.WideLaws
import Derived.Deep.DeepCutAuto
import Derived.Deep.CutBlock
import Derived.Deep.RegionHeld3
import Derived.Laws.Rows
import Derived.Lib.AppendStr
import Derived.ArgAppend
import Derived.Laws.IdiomCopy
import Derived.OrdersHeld
import Derived.Laws.BitsLemmas
import Derived.RowKit
import Derived.StillTailTactics
import Derived.Test.YtfcmdhimlfoofaaWWords
import Derived.Test.YtfcmdhimlfoofaaWLast
import Derived.Test.YtfcmdhimlfoofaaWMore
import Derived.Lib.Hide
import Derived.Test.YtfcmdhimlfoofaaCount
import Derived.Test.YtfcmdhimlfoofaaWriter
import Derived.Deep.MidRow
import Derived.Deep.WholeRow
import Derived.Test.YtfcmdhimlfoofaaWArr
import Derived.Test.YtfcmdhimlfoofaaArrays
import Derived.Test.YtfcmdhimlfoofaaArrEq
import Derived.Test.YtfcmdhimlfoofaaCells
import Derived.Outline
import Derived.Deep.DrawnRows
import Derived.Deep.RegionLaw
import Derived.Test.YtfcmdhimlfoofaaBytes
import Derived.Test.YtfcmdhimlfoofaaParse
import Derived.LaidEql
import Derived.Test.YtfcmdhimlfoofaaRows
import Derived.Test.YtfcmdhimlfoofaaOpens
import Derived.Test.YtfcmdhimlfoofaaWSized
import Derived.ProofKit
import Derived.OpenShut
import Derived.ShutString
import Derived.ChangeOld
import Derived.SizedLaws
/- Messages: what they are, and their bytes, no program in sight. -/
namespace Go.Proofs.Ytfcmdhimlfoofaa.Hand
open Go Go.RowKit Go.Proofs.Ytfcmdhimlfoofaa.Plain Go.Proofs.YtfcmdhimlfoofaaW.PrintWords Go.Proofs.YtfcmdhimlfoofaaW.PrintLast Go.Proofs.YtfcmdhimlfoofaaW.PrintMore
set_option linter.unusedVariables false
set_option linter.unusedSimpArgs false
/-- A header in a message; an entry of a proof; a message. -/
structure HT where
  v : Int
  p : List Int
  r : List Int
  t : Int
  b : Int
  n : Int
structure ET where
  tx : List Int
  cnt : Int
  idx : Int
  path : List (List Int)
structure MT where
  kind : Int
  loc : List (List Int)
  stop : List Int
  heads : List HT
  block : List Int
  item : List Int
  data : List Int
  ents : List ET
  nonce : Int
  of_ : Int
  code : Int
def z32m : List Int := List.replicate 32 0
/-- A kind's fields, a bit each: locator 0, stop 1, heads 2, of 3, block 4, data 5, item 6, entries 7, nonce 8, code 9. -/
def rowM (k : Int) : Nat := if k = 1 then 259 else if k = 2 then 260 else if k = 3 then 16 else if k = 4 then 48 else if k = 5 then 80 else if k = 6 then 208 else if k = 7 then 256 else if k = 8 then 256 else if k = 9 then 856 else 0
def usesM (k : Int) (f : Nat) : Bool := rowM k / 2 ^ f % 2 == 1
def noneM (m : MT) (f : Nat) : Bool := match f with
  | 0 => m.loc.length == 0
  | 1 => m.stop == z32m
  | 2 => m.heads.length == 0
  | 3 => m.of_ == 0
  | 4 => m.block == z32m
  | 5 => m.data.length == 0
  | 6 => m.item.length == 0
  | 7 => m.ents.length == 0
  | 8 => m.nonce == 0
  | _ => m.code == 0
def fitE (x : ET) : Bool := decide (x.tx.length ≤ 700 ∧ 0 ≤ x.cnt ∧ x.cnt ≤ 65536 ∧ 0 ≤ x.idx ∧ x.idx ≤ 65536 ∧ x.path.length ≤ 16)
def fitM (m : MT) (f : Nat) : Bool := match f with
  | 0 => decide (m.loc.length ≤ 64)
  | 2 => decide (m.heads.length ≤ 2000)
  | 3 => decide (0 ≤ m.of_ ∧ m.of_ ≤ 255)
  | 5 => decide (m.data.length ≤ 2048)
  | 6 => decide (m.item.length ≤ 64)
  | 7 => decide (m.ents.length ≤ 16) && m.ents.all fitE
  | 9 => decide (0 ≤ m.code ∧ m.code ≤ 255)
  | _ => true
def hdB (x : HT) : List Int := digs 4 x.v.toNat ++ (x.p ++ x.r) ++ digs 4 x.t.toNat ++ digs 4 x.b.toNat ++ digs 4 x.n.toNat
def hashesB (l : List (List Int)) : List Int := varB l.length ++ l.flatten
def textB (l : List Int) : List Int := varB l.length ++ l
def entB (x : ET) : List Int := textB x.tx ++ varB x.cnt.toNat ++ varB x.idx.toNat ++ hashesB x.path
def putB (m : MT) (f : Nat) : List Int := match f with
  | 0 => hashesB m.loc
  | 1 => m.stop
  | 2 => varB m.heads.length ++ m.heads.flatMap hdB
  | 3 => digs 1 m.of_.toNat
  | 4 => m.block
  | 5 => textB m.data
  | 6 => textB m.item
  | 7 => varB m.ents.length ++ m.ents.flatMap entB
  | 8 => digs 8 m.nonce.toNat
  | _ => digs 1 m.code.toNat
/-- The fields of a kind, in the order in which they stand. -/
def fieldsM (k : Int) : List Nat := (List.range 10).filter (usesM k)
def bodyM (m : MT) : List Int := (fieldsM m.kind).flatMap (putB m)
def bytesME (m : MT) : Int := if m.kind < 1 ∨ 9 < m.kind then 3 else if (List.range 10).any (fun f => !usesM m.kind f && !noneM m f) then 3 else if (fieldsM m.kind).any (fun f => !fitM m f) then 4 else 0
def bytesMV (m : MT) : List Int := if bytesME m = 0 then digs 1 m.kind.toNat ++ bodyM m else []
/-- What a message's parts are. -/
structure HOk (h : HT) : Prop where
  p32 : h.p.length = 32
  r32 : h.r.length = 32
  v0 : 0 ≤ h.v
  v1 : h.v < 4294967296
  t0 : 0 ≤ h.t
  t1 : h.t < 4294967296
  b0 : 0 ≤ h.b
  b1 : h.b < 4294967296
  n0 : 0 ≤ h.n
  n1 : h.n < 4294967296
  pb : ∀ x ∈ h.p, 0 ≤ x ∧ x < 256
  rb : ∀ x ∈ h.r, 0 ≤ x ∧ x < 256
structure MWf (m : MT) : Prop where
  loc : ∀ h ∈ m.loc, h.length = 32 ∧ ∀ x ∈ h, 0 ≤ x ∧ x < 256
  stop : m.stop.length = 32 ∧ ∀ x ∈ m.stop, 0 ≤ x ∧ x < 256
  heads : ∀ h ∈ m.heads, HOk h
  block : m.block.length = 32 ∧ ∀ x ∈ m.block, 0 ≤ x ∧ x < 256
  item : ∀ x ∈ m.item, 0 ≤ x ∧ x < 256
  data : ∀ x ∈ m.data, 0 ≤ x ∧ x < 256
  ents : ∀ e ∈ m.ents, (∀ x ∈ e.tx, 0 ≤ x ∧ x < 256) ∧ ∀ h ∈ e.path, h.length = 32 ∧ ∀ x ∈ h, 0 ≤ x ∧ x < 256
  nonce : 0 ≤ m.nonce ∧ m.nonce < 18446744073709551616
/-- How many bytes a field has at most. -/
def maxB (f : Nat) : Nat := match f with
  | 0 => 2057
  | 1 => 32
  | 2 => 160009
  | 3 => 1
  | 4 => 32
  | 5 => 2057
  | 6 => 73
  | 7 => 19977
  | 8 => 8
  | _ => 1
theorem varB_le9 (n : Nat) : (varB n).length ≤ 9 := varB_length n
theorem hdB_len {h : HT} (hk : HOk h) : (hdB h).length = 80 := by
  simp [hdB, digs_length, hk.p32, hk.r32]
theorem hds_len : ∀ {l : List HT}, (∀ h ∈ l, HOk h) → (l.flatMap hdB).length = 80 * l.length
  | [], _ => rfl
  | h :: l, hh => by
    have h1 := hdB_len (hh h (by simp))
    have h2 := hds_len (l := l) (fun x hx => hh x (by simp [hx]))
    simp only [List.flatMap_cons, List.length_append, List.length_cons]
    omega
theorem flat32_len : ∀ (l : List (List Int)), (∀ h ∈ l, h.length = 32) → l.flatten.length = 32 * l.length
  | [], _ => rfl
  | h :: l, hh => by
    have h1 := hh h (by simp)
    have h2 := flat32_len l (fun x hx => hh x (by simp [hx]))
    simp only [List.flatten_cons, List.length_append, List.length_cons]
    omega
theorem entB_len {x : ET} (hf : fitE x = true) (hp : ∀ h ∈ x.path, h.length = 32) : (entB x).length ≤ 1248 := by
  obtain ⟨h1, h2, h3, h4, h5, h6⟩ := of_decide_eq_true hf
  have := varB_length x.tx.length
  have := varB_length x.cnt.toNat
  have := varB_length x.idx.toNat
  have := varB_length x.path.length
  have := flat32_len x.path hp
  simp only [entB, textB, hashesB, List.length_append]
  omega
theorem ents_len : ∀ {l : List ET}, (∀ x ∈ l, fitE x = true) → (∀ x ∈ l, ∀ h ∈ x.path, h.length = 32) → (l.flatMap entB).length ≤ 1248 * l.length
  | [], _, _ => by simp
  | x :: l, hf, hp => by
    have h1 := entB_len (hf x (by simp)) (hp x (by simp))
    have h2 := ents_len (l := l) (fun y hy => hf y (by simp [hy])) (fun y hy => hp y (by simp [hy]))
    simp only [List.flatMap_cons, List.length_append, List.length_cons]
    omega
theorem putB_len {m : MT} (hw : MWf m) (f : Nat) (hf : fitM m f = true) : (putB m f).length ≤ maxB f := by
  unfold fitM at hf
  unfold putB maxB
  have v0 := varB_length m.loc.length
  have v2 := varB_length m.heads.length
  have v5 := varB_length m.data.length
  have v6 := varB_length m.item.length
  have v7 := varB_length m.ents.length
  match f with
  | 0 =>
    have h1 := flat32_len m.loc (fun h hh => (hw.loc h hh).1)
    have h2 := of_decide_eq_true hf
    simp only [hashesB, List.length_append]
    omega
  | 1 => simp only [hw.stop.1]; omega
  | 2 =>
    have h1 := hds_len hw.heads
    have h2 := of_decide_eq_true hf
    simp only [List.length_append]
    omega
  | 3 => simp [digs_length]
  | 4 => simp only [hw.block.1]; omega
  | 5 =>
    have h2 := of_decide_eq_true hf
    simp only [textB, List.length_append]
    omega
  | 6 =>
    have h2 := of_decide_eq_true hf
    simp only [textB, List.length_append]
    omega
  | 7 =>
    simp only [Bool.and_eq_true, List.all_eq_true] at hf
    have h2 := of_decide_eq_true hf.1
    have h1 := ents_len hf.2 (fun x hx h hh => ((hw.ents x hx).2 h hh).1)
    simp only [List.length_append]
    omega
  | 8 => simp [digs_length]
  | n + 9 => simp [digs_length]
theorem fields_1 : fieldsM 1 = [0, 1, 8] := by decide
theorem fields_2 : fieldsM 2 = [2, 8] := by decide
theorem fields_3 : fieldsM 3 = [4] := by decide
theorem fields_4 : fieldsM 4 = [4, 5] := by decide
theorem fields_5 : fieldsM 5 = [4, 6] := by decide
theorem fields_6 : fieldsM 6 = [4, 6, 7] := by decide
theorem fields_7 : fieldsM 7 = [8] := by decide
theorem fields_8 : fieldsM 8 = [8] := by decide
theorem fields_9 : fieldsM 9 = [3, 4, 6, 8, 9] := by decide
theorem flat32 : ∀ (l : List (List Int)), (∀ h ∈ l, h.length = 32 ∧ ∀ x ∈ h, 0 ≤ x ∧ x < 256) → l.flatten.length = 32 * l.length ∧ ∀ x ∈ l.flatten, 0 ≤ x ∧ x < 256
  | [], _ => by simp
  | h :: l, hh => by
    obtain ⟨i1, i2⟩ := flat32 l (fun x hx => hh x (by simp [hx]))
    obtain ⟨h1, h2⟩ := hh h (by simp)
    rw [List.flatten_cons]
    refine ⟨by rw [List.length_append, List.length_cons, i1, h1]; omega, fun x hx => ?_⟩
    rcases List.mem_append.1 hx with hx | hx
    · exact h2 x hx
    · exact i2 x hx
/-- A message of no field but the nonce: it has bytes, just if its kind has a name. -/
def bare (k n : Int) : MT := ⟨k, [], z32m, [], z32m, [], [], [], n, 0, 0⟩
theorem bare_none (k : Int) (f : Nat) : noneM (bare k 0) f = true := by
  unfold noneM bare
  match f with
  | 0 => rfl
  | 1 => simp
  | 2 => rfl
  | 3 => rfl
  | 4 => simp
  | 5 => rfl
  | 6 => rfl
  | 7 => rfl
  | 8 => rfl
  | _ + 9 => rfl
theorem bare_fit (k n : Int) (f : Nat) : fitM (bare k n) f = true := by
  unfold fitM bare
  match f with
  | 0 => rfl
  | 1 => rfl
  | 2 => rfl
  | 3 => rfl
  | 4 => rfl
  | 5 => rfl
  | 6 => rfl
  | 7 => rfl
  | 8 => rfl
  | 9 => rfl
  | _ + 10 => rfl
theorem bare_bytes (k : Int) : bytesME (bare k 0) = if k < 1 ∨ 9 < k then 3 else 0 := by
  have hk : (bare k 0).kind = k := rfl
  unfold bytesME
  rw [hk]
  by_cases h : k < 1 ∨ 9 < k
  · rw [if_pos h, if_pos h]
  · rw [if_neg h, if_neg h, if_neg, if_neg]
    · simp [bare_fit]
    · simp [bare_none]
end Go.Proofs.Ytfcmdhimlfoofaa.Hand


/- Hashes, headers, entries and messages in memory: their cells, as elements of rows. -/
namespace Go.Proofs.Ytfcmdhimlfoofaa.Hand
open Go Go.RowKit Go.Proofs.Ytfcmdhimlfoofaa.Plain Go.Proofs.YtfcmdhimlfoofaaW.PrintWords Go.Proofs.YtfcmdhimlfoofaaW.PrintLast Go.Proofs.YtfcmdhimlfoofaaW.PrintMore
set_option linter.unusedVariables false
set_option linter.unusedSimpArgs false
set_option maxRecDepth 100000
/-- A hash of a list, by its place. -/
def rdH (xs : List (List Int)) (i : Nat) : List Int := xs.getD i z32m
theorem rdH_eq {xs : List (List Int)} {i : Nat} (h : i < xs.length) : rdH xs i = xs[i] := by
  unfold rdH
  rw [List.getD_eq_getElem?_getD, List.getElem?_eq_getElem h]
  rfl
/-- A hash, as an element of a row. -/
abbrev kH : Kd (List Int) := Kd.arr 32 (Kd.int .u8) (by decide)
theorem kH_sz : kH.sz = 32 := rfl
theorem kH_M {w : World} {base : Nat} {ok : Nat → Prop} {p : List Int} (h : p.length = 32) : kH.M w base ok p (nums .u8 p) := Kd.arr_of_cells h
theorem kH_K {w : World} {p : List Int} {cs : List Value} (h : kH.K w p cs) : p.length = 32 ∧ cs = nums .u8 p := Kd.arr_cells h
theorem kH_of {w : World} {p : List Int} (h : p.length = 32) : kH.K w p (nums .u8 p) := kH.K_of_M (kH_M (base := 0) (ok := fun _ => True) h)
theorem addr_of_cell {w : World} {ad : Addr} {v : Value} (h : w.cell? ad = some v) : ad = ⟨ad.block, ad.off, none⟩ := by
  obtain ⟨b, o, s⟩ := ad
  cases s with
  | none => rfl
  | some s =>
    unfold World.cell? at h
    split at h
    · simp at h
    · cases h
theorem nums_len (k : IntKind) (l : List Int) : (nums k l).length = l.length := by simp [nums]
/-- The hashes of a row that is read. -/
theorem C_hash {w : World} {A : Option Addr} {xs : List (List Int)} (h : Kd.C kH w A xs.length xs) (h0 : 0 < xs.length) : ∃ b o, A = some ⟨b, o, none⟩ ∧ b < w.heap.size ∧ ∀ i, i < xs.length → w.rangeAt b (o + i * 32) (nums .u8 (rdH xs i)) ∧ (rdH xs i).length = 32 := by
  obtain ⟨_, _, h3⟩ := h
  obtain ⟨ad, e, hc⟩ := h3 h0
  have hall : ∀ i, i < xs.length → ∀ (j : Nat) v, (nums .u8 (rdH xs i))[j]? = some v → w.cell? (ad.add (i * 32 + j)) = some v := by
    intro i hi j v hj
    obtain ⟨c, hl, hK, hcell⟩ := hc i xs[i] (List.getElem?_eq_getElem hi)
    obtain ⟨h32, rfl⟩ := kH_K hK
    rw [rdH_eq hi] at hj
    exact hcell j v hj
  have hlen : ∀ i, i < xs.length → (rdH xs i).length = 32 := by
    intro i hi
    obtain ⟨c, hl, hK, hcell⟩ := hc i xs[i] (List.getElem?_eq_getElem hi)
    rw [rdH_eq hi]
    exact (kH_K hK).1
  have hz : w.cell? ad = some (.int .u8 (rd (rdH xs 0) 0)) := by
    have := hall 0 h0 0 (.int .u8 (rd (rdH xs 0) 0)) (by
      have h32 := hlen 0 h0
      simp [nums, rd, List.getElem?_eq_getElem (show 0 < (rdH xs 0).length by omega)])
    simpa [Addr.add] using this
  have had := addr_of_cell hz
  refine ⟨ad.block, ad.off, by rw [e]; exact congrArg some had, block_lt_of_cell hz, fun i hi => ⟨fun j v hj => ?_, hlen i hi⟩⟩
  have h2 := hall i hi j v hj
  rw [had, Addr.add_mid] at h2
  rw [Nat.add_assoc]
  exact h2
/-- A row of hashes out of its cells. -/
theorem C_of_ranges {w : World} {b o : Nat} {xs : List (List Int)} (h : ∀ i, i < xs.length → w.rangeAt b (o + i * 32) (nums .u8 (rdH xs i))) (h32 : ∀ p ∈ xs, p.length = 32) (hm : xs.length ≤ 9223372036854775807) : Kd.C kH w (some ⟨b, o, none⟩) xs.length xs := by
  refine ⟨rfl, hm, fun _ => ⟨⟨b, o, none⟩, rfl, fun i p hi => ?_⟩⟩
  obtain ⟨hl, rfl⟩ := List.getElem?_eq_some_iff.1 hi
  refine ⟨nums .u8 xs[i], by rw [nums_len]; exact h32 _ (List.getElem_mem hl), kH_of (h32 _ (List.getElem_mem hl)), fun j v hj => ?_⟩
  rw [Addr.add_mid]
  have := h i hl j v (by rw [rdH_eq hl]; exact hj)
  rw [Nat.add_assoc] at this
  exact this
/-- A block of hashes. -/
def hcs (xs : List (List Int)) : List Value := (xs.map (nums .u8)).flatten
theorem hcs_len {xs : List (List Int)} (h : ∀ p ∈ xs, p.length = 32) : (hcs xs).length = xs.length * 32 := by
  induction xs with
  | nil => rfl
  | cons p xs ih =>
    have h1 := h p (by simp)
    have h2 := ih (fun q hq => h q (by simp [hq]))
    simp only [hcs, List.map_cons, List.flatten_cons, List.length_append, nums_len, List.length_cons] at *
    omega
theorem hcs_get {xs : List (List Int)} (h : ∀ p ∈ xs, p.length = 32) : ∀ (i j : Nat) v, i < xs.length → (nums .u8 (rdH xs i))[j]? = some v → (hcs xs)[i * 32 + j]? = some v := by
  induction xs with
  | nil => intro i j v hi; simp at hi
  | cons p xs ih =>
    intro i j v hi hj
    have h1 := h p (by simp)
    have hlt := (List.getElem?_eq_some_iff.1 hj).1
    have e : hcs (p :: xs) = nums .u8 p ++ hcs xs := rfl
    rw [e]
    cases i with
    | zero =>
      have hj2 : (nums .u8 p)[j]? = some v := hj
      rw [Nat.zero_mul, Nat.zero_add, List.getElem?_append_left (List.getElem?_eq_some_iff.1 hj2).1]
      exact hj2
    | succ i =>
      have hj2 : (nums .u8 (rdH xs i))[j]? = some v := by simpa [rdH] using hj
      rw [List.getElem?_append_right (by rw [nums_len, h1]; omega), nums_len, h1, show (i + 1) * 32 + j - 32 = i * 32 + j by omega]
      exact ih (fun q hq => h q (by simp [hq])) i j v (by simpa using hi) hj2
theorem C_of_hcs {w : World} {b : Nat} {t : TypeId} {fr : Nat × Nat} {xs : List (List Int)} (hb : w.heap[b]? = some (.cells (hcs xs).toArray t fr)) (h32 : ∀ p ∈ xs, p.length = 32) (hm : xs.length ≤ 9223372036854775807) : Kd.C kH w (some ⟨b, 0, none⟩) xs.length xs := by
  refine C_of_ranges (fun i hi j v hj => ?_) h32 hm
  rw [cell_of_row w b _ _ t fr hb, List.getElem?_toArray, Nat.zero_add]
  exact hcs_get h32 i j v hi hj

theorem eqH (S T : List Int) (hS : S.length = 32) (hT : T.length = 32) (w : World) : (Op.equalIn 10000 28 (.agg (nums .u8 S).toArray) (.agg (nums .u8 T).toArray)).run Try.prog w = .ok (S == T) w :=
  run_equalIn_nums (P := Try.prog) w 9998 28 5 32 .u8 Try.underlying28 Try.underlying5 (fun w => by rfl) S T hS hT
/-- A header, an entry, a message as kinds. -/
def kHd : Kd HT := Kd.iso (Kd.pair (Kd.int .u32) (Kd.pair kH (Kd.pair kH (Kd.pair (Kd.int .u32) (Kd.pair (Kd.int .u32) (Kd.int .u32)))))) fun x => (x.v, x.p, x.r, x.t, x.b, x.n)
def kE : Kd ET := Kd.iso (Kd.pair (Kd.slice 5 (Kd.int .u8)) (Kd.pair (Kd.int .i64) (Kd.pair (Kd.int .i64) (Kd.slice 28 kH)))) fun x => (x.tx, x.cnt, x.idx, x.path)
theorem kHd_sz : kHd.sz = 68 := rfl
theorem kE_sz : kE.sz = 4 := rfl
/-- Where a message's rows lie. -/
structure MA where
  la : Option Addr
  lc : Nat
  ha : Option Addr
  hc : Nat
  ia : Option Addr
  ic : Nat
  da : Option Addr
  dc : Nat
  ea : Option Addr
  ec : Nat
def mcells (a : MA) (m : MT) : List Value := .int .i64 m.kind :: .slice a.la m.loc.length a.lc :: (nums .u8 m.stop ++ (.slice a.ha m.heads.length a.hc :: (nums .u8 m.block ++ [.slice a.ia m.item.length a.ic, .slice a.da m.data.length a.dc, .slice a.ea m.ents.length a.ec, .int .u64 m.nonce, .int .i64 m.of_, .int .i64 m.code])))
def mV (a : MA) (m : MT) : Value := .agg (mcells a m).toArray
/-- A message's rows are read. -/
structure MC (w : World) (a : MA) (m : MT) : Prop where
  loc : Kd.C kH w a.la m.loc.length m.loc
  lc : m.loc.length ≤ a.lc
  heads : Kd.C kHd w a.ha m.heads.length m.heads
  hc : m.heads.length ≤ a.hc
  item : Kd.C (Kd.int .u8) w a.ia m.item.length m.item
  ic : m.item.length ≤ a.ic
  data : Kd.C (Kd.int .u8) w a.da m.data.length m.data
  dc : m.data.length ≤ a.dc
  ents : Kd.C kE w a.ea m.ents.length m.ents
  ec : m.ents.length ≤ a.ec
theorem MC.below {w w1 : World} {a : MA} {m : MT} (h : MC w a m) (hb : Below w.heap.size w w1) : MC w1 a m :=
  ⟨Kd.C_below h.loc hb, h.lc, Kd.C_below h.heads hb, h.hc, Kd.C_below h.item hb, h.ic, Kd.C_below h.data hb, h.dc, Kd.C_below h.ents hb, h.ec⟩
theorem mcells_len (a : MA) (m : MT) (hs : m.stop.length = 32) (hb : m.block.length = 32) : (mcells a m).length = 73 := by
  simp [mcells, nums, hs, hb]
theorem mcells_at (a : MA) (m : MT) (hs : m.stop.length = 32) (hb : m.block.length = 32) : (mcells a m).toArray[0]? = some (.int .i64 m.kind) ∧ (mcells a m).toArray[1]? = some (.slice a.la m.loc.length a.lc) ∧ (mcells a m).toArray[34]? = some (.slice a.ha m.heads.length a.hc) ∧ (mcells a m).toArray[67]? = some (.slice a.ia m.item.length a.ic) ∧ (mcells a m).toArray[68]? = some (.slice a.da m.data.length a.dc) ∧ (mcells a m).toArray[69]? = some (.slice a.ea m.ents.length a.ec) ∧ (mcells a m).toArray[70]? = some (.int .u64 m.nonce) ∧ (mcells a m).toArray[71]? = some (.int .i64 m.of_) ∧ (mcells a m).toArray[72]? = some (.int .i64 m.code) := by
  obtain ⟨kind, loc, stop, heads, block, item, data, ents, nonce, of_, code⟩ := m
  simp only at hs hb
  obtain ⟨x0, x1, x2, x3, x4, x5, x6, x7, x8, x9, x10, x11, x12, x13, x14, x15, x16, x17, x18, x19, x20, x21, x22, x23, x24, x25, x26, x27, x28, x29, x30, x31, rfl⟩ := list32 stop hs
  obtain ⟨y0, y1, y2, y3, y4, y5, y6, y7, y8, y9, y10, y11, y12, y13, y14, y15, y16, y17, y18, y19, y20, y21, y22, y23, y24, y25, y26, y27, y28, y29, y30, y31, rfl⟩ := list32 block hb
  exact ⟨rfl, rfl, rfl, rfl, rfl, rfl, rfl, rfl, rfl⟩
/-- A message's box: its fields. -/
structure MBox (w : World) (bx : Nat) (a : MA) (m : MT) : Prop where
  blk : w.heap[bx]? = some (.cells (mcells a m).toArray 33 (0, 0))
  s32 : m.stop.length = 32
  b32 : m.block.length = 32
theorem MBox.below {w w1 : World} {bx : Nat} {a : MA} {m : MT} (h : MBox w bx a m) (hb : Below w.heap.size w w1) : MBox w1 bx a m := ⟨(hb.block bx (blk_lt h.blk)).trans h.blk, h.s32, h.b32⟩
theorem range_of_block {w : World} {b o : Nat} {t : TypeId} {pre mid post : List Value} (hb : w.heap[b]? = some (.cells (pre ++ (mid ++ post)).toArray t (0, 0))) (ho : pre.length = o) : w.rangeAt b o mid := by
  intro j v hj
  rw [blk_cell hb, List.getElem?_toArray, List.getElem?_append_right (by omega), ho, Nat.add_sub_cancel_left, List.getElem?_append_left (List.getElem?_eq_some_iff.1 hj).1]
  exact hj
theorem MBox.cells {w : World} {bx : Nat} {a : MA} {m : MT} (h : MBox w bx a m) : w.cell? ⟨bx, 0, none⟩ = some (.int .i64 m.kind) ∧ w.cell? ⟨bx, 1, none⟩ = some (.slice a.la m.loc.length a.lc) ∧ w.cell? ⟨bx, 34, none⟩ = some (.slice a.ha m.heads.length a.hc) ∧ w.cell? ⟨bx, 67, none⟩ = some (.slice a.ia m.item.length a.ic) ∧ w.cell? ⟨bx, 68, none⟩ = some (.slice a.da m.data.length a.dc) ∧ w.cell? ⟨bx, 69, none⟩ = some (.slice a.ea m.ents.length a.ec) ∧ w.cell? ⟨bx, 70, none⟩ = some (.int .u64 m.nonce) ∧ w.cell? ⟨bx, 71, none⟩ = some (.int .i64 m.of_) ∧ w.cell? ⟨bx, 72, none⟩ = some (.int .i64 m.code) := by
  obtain ⟨h0, h1, h2, h3, h4, h5, h6, h7, h8⟩ := mcells_at a m h.s32 h.b32
  have hb := h.blk
  exact ⟨(blk_cell hb _).trans h0, (blk_cell hb _).trans h1, (blk_cell hb _).trans h2, (blk_cell hb _).trans h3, (blk_cell hb _).trans h4, (blk_cell hb _).trans h5, (blk_cell hb _).trans h6, (blk_cell hb _).trans h7, (blk_cell hb _).trans h8⟩
theorem MBox.stop {w : World} {bx : Nat} {a : MA} {m : MT} (h : MBox w bx a m) : w.rangeAt bx 2 (nums .u8 m.stop) := by
  have hb := h.blk
  refine range_of_block (pre := [.int .i64 m.kind, .slice a.la m.loc.length a.lc]) hb rfl
theorem MBox.block {w : World} {bx : Nat} {a : MA} {m : MT} (h : MBox w bx a m) : w.rangeAt bx 35 (nums .u8 m.block) := by
  have hb := h.blk
  refine range_of_block (pre := .int .i64 m.kind :: .slice a.la m.loc.length a.lc :: (nums .u8 m.stop ++ [.slice a.ha m.heads.length a.hc])) (mid := nums .u8 m.block) (post := [.slice a.ia m.item.length a.ic, .slice a.da m.data.length a.dc, .slice a.ea m.ents.length a.ec, .int .u64 m.nonce, .int .i64 m.of_, .int .i64 m.code]) (t := 33) ?_ (by simp [nums, h.s32])
  rw [hb]
  simp [mcells]
theorem MBox.stopC {w : World} {bx : Nat} {a : MA} {m : MT} (h : MBox w bx a m) : Kd.C (Kd.int .u8) w (some ⟨bx, 2, none⟩) 32 m.stop := by
  have hb := h.blk
  have := C_of_block (pre := [.int .i64 m.kind, .slice a.la m.loc.length a.lc]) (k := .u8) (ys := m.stop) (o := 2) hb rfl (by have := h.s32; omega)
  rwa [h.s32] at this
theorem MBox.blockC {w : World} {bx : Nat} {a : MA} {m : MT} (h : MBox w bx a m) : Kd.C (Kd.int .u8) w (some ⟨bx, 35, none⟩) 32 m.block := by
  have hb := h.blk
  have := C_of_block (pre := .int .i64 m.kind :: .slice a.la m.loc.length a.lc :: (nums .u8 m.stop ++ [.slice a.ha m.heads.length a.hc])) (post := [.slice a.ia m.item.length a.ic, .slice a.da m.data.length a.dc, .slice a.ea m.ents.length a.ec, .int .u64 m.nonce, .int .i64 m.of_, .int .i64 m.code]) (k := .u8) (ys := m.block) (o := 35) (w := w) (b := bx) (t := 33) (fr := (0, 0)) (by rw [hb]; simp [mcells]) (by simp [nums, h.s32]) (by have := h.b32; omega)
  rwa [h.b32] at this
/-- An entry of a row that is read. -/
def zE : ET := ⟨[], 0, 0, []⟩
def rdE (xs : List ET) (i : Int) : ET := xs.getD i.toNat zE
theorem kE_open {w : World} {x : ET} {cs : List Value} (h : kE.K w x cs) : ∃ A c A' c', cs = [.slice A x.tx.length c, .int .i64 x.cnt, .int .i64 x.idx, .slice A' x.path.length c'] ∧ x.tx.length ≤ c ∧ Kd.C (Kd.int .u8) w A x.tx.length x.tx ∧ x.path.length ≤ c' ∧ Kd.C kH w A' x.path.length x.path := by
  obtain ⟨_, _, rfl, ⟨A, c, rfl, hl, hC⟩, ⟨_, _, rfl, rfl, ⟨_, _, rfl, rfl, ⟨A', c', rfl, hl', hC'⟩⟩⟩⟩ := h
  exact ⟨A, c, A', c', rfl, hl, hC, hl', hC'⟩
theorem at_E {w : World} {A : Option Addr} {n : Nat} {xs : List ET} (h : Kd.C kE w A n xs) (i : Int) (h0 : 0 ≤ i) (h1 : i < n) : ∃ ad A1 c1 A2 c2, A = some ad ∧ w.cell? (ad.add (i.toNat * 4)) = some (.slice A1 (rdE xs i).tx.length c1) ∧ w.cell? ⟨(ad.add (i.toNat * 4)).block, (ad.add (i.toNat * 4)).off + 1, none⟩ = some (.int .i64 (rdE xs i).cnt) ∧ w.cell? ⟨(ad.add (i.toNat * 4)).block, (ad.add (i.toNat * 4)).off + 2, none⟩ = some (.int .i64 (rdE xs i).idx) ∧ w.cell? ⟨(ad.add (i.toNat * 4)).block, (ad.add (i.toNat * 4)).off + 3, none⟩ = some (.slice A2 (rdE xs i).path.length c2) ∧ (rdE xs i).tx.length ≤ c1 ∧ Kd.C (Kd.int .u8) w A1 (rdE xs i).tx.length (rdE xs i).tx ∧ (rdE xs i).path.length ≤ c2 ∧ Kd.C kH w A2 (rdE xs i).path.length (rdE xs i).path := by
  obtain ⟨ad, c, e, _, hK, hc0⟩ := Kd.C_get h zE i h0 h1
  have hc : ∀ j u, c[j]? = some u → w.cell? (ad.add (i.toNat * 4 + j)) = some u := hc0
  obtain ⟨A1, c1, A2, c2, rfl, hl, hC, hl', hC'⟩ := kE_open hK
  exact ⟨ad, A1, c1, A2, c2, e, hc 0 _ rfl, by rw [← add_field _ _ 1 (by omega)]; exact hc 1 _ rfl, by rw [← add_field _ _ 2 (by omega)]; exact hc 2 _ rfl, by rw [← add_field _ _ 3 (by omega)]; exact hc 3 _ rfl, hl, hC, hl', hC'⟩
theorem rdE_eq {xs : List ET} {i : Int} (h0 : 0 ≤ i) (h1 : i < (xs.length : Int)) : ∃ h : i.toNat < xs.length, rdE xs i = xs[i.toNat] := by
  refine ⟨by omega, ?_⟩
  unfold rdE
  rw [List.getD_eq_getElem?_getD, List.getElem?_eq_getElem (by omega)]
  rfl
theorem rdE_mem {xs : List ET} {i : Int} (h0 : 0 ≤ i) (h1 : i < (xs.length : Int)) : rdE xs i ∈ xs := by
  obtain ⟨h, e⟩ := rdE_eq h0 h1
  rw [e]
  exact List.getElem_mem _
theorem takeE {xs : List ET} {k : Int} (h0 : 0 ≤ k) (h1 : k < (xs.length : Int)) : xs.take (k + 1).toNat = xs.take k.toNat ++ [rdE xs k] := by
  obtain ⟨h, e⟩ := rdE_eq h0 h1
  rw [show (k + 1).toNat = k.toNat + 1 by omega, List.take_add_one, List.getElem?_eq_getElem h, e]
  rfl
/-- A header of a row that is read. -/
def zHd : HT := ⟨0, z32m, z32m, 0, 0, 0⟩
def rdHd (xs : List HT) (i : Nat) : HT := xs.getD i zHd
def hcT (x : HT) : List Value := hcells x.v x.p x.r x.t x.b x.n
theorem kHd_K {w : World} {x : HT} {cs : List Value} (h : kHd.K w x cs) : x.p.length = 32 ∧ x.r.length = 32 ∧ cs = hcT x := by
  obtain ⟨c0, c1, e0, k0, d1, d2, e1, k1, d3, d4, e2, k2, d5, d6, e3, k3, d7, d8, e4, k4, k5⟩ := h
  obtain ⟨lp, rfl⟩ := kH_K k1
  obtain ⟨lr, rfl⟩ := kH_K k2
  obtain rfl : c0 = [.int .u32 x.v] := k0
  obtain rfl : d5 = [.int .u32 x.t] := k3
  obtain rfl : d7 = [.int .u32 x.b] := k4
  obtain rfl : d8 = [.int .u32 x.n] := k5
  subst e4 e3 e2 e1
  exact ⟨lp, lr, e0⟩
theorem hcT_len {x : HT} (hp : x.p.length = 32) (hr : x.r.length = 32) : (hcT x).length = 68 := hcells_len _ _ _ _ _ _ hp hr
theorem rdHd_eq {xs : List HT} {i : Nat} (h : i < xs.length) : rdHd xs i = xs[i] := by
  unfold rdHd
  rw [List.getD_eq_getElem?_getD, List.getElem?_eq_getElem h]
  rfl
theorem C_heads {w : World} {A : Option Addr} {xs : List HT} (h : Kd.C kHd w A xs.length xs) (h0 : 0 < xs.length) : ∃ b o, A = some ⟨b, o, none⟩ ∧ b < w.heap.size ∧ ∀ i, i < xs.length → w.rangeAt b (o + i * 68) (hcT (rdHd xs i)) ∧ (rdHd xs i).p.length = 32 ∧ (rdHd xs i).r.length = 32 := by
  obtain ⟨_, _, h3⟩ := h
  obtain ⟨ad, e, hc⟩ := h3 h0
  have hall : ∀ i, i < xs.length → (rdHd xs i).p.length = 32 ∧ (rdHd xs i).r.length = 32 ∧ ∀ (j : Nat) v, (hcT (rdHd xs i))[j]? = some v → w.cell? (ad.add (i * 68 + j)) = some v := by
    intro i hi
    obtain ⟨c, hl, hK, hcell⟩ := hc i xs[i] (List.getElem?_eq_getElem hi)
    obtain ⟨hp, hr, rfl⟩ := kHd_K hK
    rw [rdHd_eq hi]
    exact ⟨hp, hr, fun j v hj => hcell j v hj⟩
  have hz : w.cell? ad = some (.int .u32 (rdHd xs 0).v) := by
    have := (hall 0 h0).2.2 0 (.int .u32 (rdHd xs 0).v) rfl
    simpa [Addr.add] using this
  have had := addr_of_cell hz
  refine ⟨ad.block, ad.off, by rw [e]; exact congrArg some had, block_lt_of_cell hz, fun i hi => ⟨fun j v hj => ?_, (hall i hi).1, (hall i hi).2.1⟩⟩
  have h2 := (hall i hi).2.2 j v hj
  rw [had, Addr.add_mid] at h2
  rw [Nat.add_assoc]
  exact h2
theorem takeHd {xs : List HT} {k : Int} (h0 : 0 ≤ k) (h1 : k < (xs.length : Int)) : (xs.take (k + 1).toNat).flatMap hdB = (xs.take k.toNat).flatMap hdB ++ hdB (rdHd xs k.toNat) := by
  have hk : k.toNat < xs.length := by omega
  rw [show (k + 1).toNat = k.toNat + 1 by omega, List.take_add_one, List.getElem?_eq_getElem hk, rdHd_eq hk]
  simp only [Option.toList, List.flatMap_append, List.flatMap_cons, List.flatMap_nil, List.append_nil]
end Go.Proofs.Ytfcmdhimlfoofaa.Hand


/- A kind's name, and whether it uses a field: walked (msg.Name, msg.uses). -/
namespace Go.Proofs.Ytfcmdhimlfoofaa.Hand
open Go Go.RowKit Go.Proofs.Ytfcmdhimlfoofaa.Plain Go.Proofs.Ytfcmdhimlfoofaa.PAll Go.Proofs.YtfcmdhimlfoofaaW.PrintWords Go.Proofs.YtfcmdhimlfoofaaW.PrintLast Go.Proofs.YtfcmdhimlfoofaaW.PrintMore
set_option linter.unusedVariables false
set_option linter.unusedSimpArgs false
set_option maxRecDepth 100000
attribute [local go_sem ↓] Go.wp_at_zero Go.wp_at_succ
/-- The names. -/
def nameM (k : Int) : ByteArray := if k = 1 then ⟨#[103, 101, 116, 104, 101, 97, 100, 101, 114, 115]⟩ else if k = 2 then ⟨#[104, 101, 97, 100, 101, 114, 115]⟩ else if k = 3 then ⟨#[103, 101, 116, 102, 105, 108, 116, 101, 114]⟩ else if k = 4 then ⟨#[102, 105, 108, 116, 101, 114]⟩ else if k = 5 then ⟨#[103, 101, 116, 112, 114, 111, 111, 102]⟩ else if k = 6 then ⟨#[112, 114, 111, 111, 102]⟩ else if k = 7 then ⟨#[112, 105, 110, 103]⟩ else if k = 8 then ⟨#[112, 111, 110, 103]⟩ else if k = 9 then ⟨#[114, 101, 106, 101, 99, 116]⟩ else ⟨#[]⟩
theorem kinds {k : Int} (h1 : 1 ≤ k) (h9 : k ≤ 9) : k = 1 ∨ k = 2 ∨ k = 3 ∨ k = 4 ∨ k = 5 ∨ k = 6 ∨ k = 7 ∨ k = 8 ∨ k = 9 := by omega
theorem name_none {k : Int} (h : k < 1 ∨ 9 < k) : nameM k = ⟨#[]⟩ := by
  unfold nameM
  repeat rw [if_neg (by omega)]
theorem built_names : Try.prog.built 56 [(0, .string ⟨#[103, 101, 116, 104, 101, 97, 100, 101, 114, 115]⟩), (1, .string ⟨#[104, 101, 97, 100, 101, 114, 115]⟩), (2, .string ⟨#[103, 101, 116, 102, 105, 108, 116, 101, 114]⟩), (3, .string ⟨#[102, 105, 108, 116, 101, 114]⟩), (4, .string ⟨#[103, 101, 116, 112, 114, 111, 111, 102]⟩), (5, .string ⟨#[112, 114, 111, 111, 102]⟩), (6, .string ⟨#[112, 105, 110, 103]⟩), (7, .string ⟨#[112, 111, 110, 103]⟩), (8, .string ⟨#[114, 101, 106, 101, 99, 116]⟩)] = some #[.string ⟨#[103, 101, 116, 104, 101, 97, 100, 101, 114, 115]⟩, .string ⟨#[104, 101, 97, 100, 101, 114, 115]⟩, .string ⟨#[103, 101, 116, 102, 105, 108, 116, 101, 114]⟩, .string ⟨#[102, 105, 108, 116, 101, 114]⟩, .string ⟨#[103, 101, 116, 112, 114, 111, 111, 102]⟩, .string ⟨#[112, 114, 111, 111, 102]⟩, .string ⟨#[112, 105, 110, 103]⟩, .string ⟨#[112, 111, 110, 103]⟩, .string ⟨#[114, 101, 106, 101, 99, 116]⟩] := by kernel_rfl
theorem idx_name0 (w : World) : (Instr.index 56 (.agg #[.string ⟨#[103, 101, 116, 104, 101, 97, 100, 101, 114, 115]⟩, .string ⟨#[104, 101, 97, 100, 101, 114, 115]⟩, .string ⟨#[103, 101, 116, 102, 105, 108, 116, 101, 114]⟩, .string ⟨#[102, 105, 108, 116, 101, 114]⟩, .string ⟨#[103, 101, 116, 112, 114, 111, 111, 102]⟩, .string ⟨#[112, 114, 111, 111, 102]⟩, .string ⟨#[112, 105, 110, 103]⟩, .string ⟨#[112, 111, 110, 103]⟩, .string ⟨#[114, 101, 106, 101, 99, 116]⟩]) (.int .i64 0)).run Try.prog w = .ok (.string ⟨#[103, 101, 116, 104, 101, 97, 100, 101, 114, 115]⟩) w := by kernel_rfl
theorem idx_name1 (w : World) : (Instr.index 56 (.agg #[.string ⟨#[103, 101, 116, 104, 101, 97, 100, 101, 114, 115]⟩, .string ⟨#[104, 101, 97, 100, 101, 114, 115]⟩, .string ⟨#[103, 101, 116, 102, 105, 108, 116, 101, 114]⟩, .string ⟨#[102, 105, 108, 116, 101, 114]⟩, .string ⟨#[103, 101, 116, 112, 114, 111, 111, 102]⟩, .string ⟨#[112, 114, 111, 111, 102]⟩, .string ⟨#[112, 105, 110, 103]⟩, .string ⟨#[112, 111, 110, 103]⟩, .string ⟨#[114, 101, 106, 101, 99, 116]⟩]) (.int .i64 1)).run Try.prog w = .ok (.string ⟨#[104, 101, 97, 100, 101, 114, 115]⟩) w := by kernel_rfl
theorem idx_name2 (w : World) : (Instr.index 56 (.agg #[.string ⟨#[103, 101, 116, 104, 101, 97, 100, 101, 114, 115]⟩, .string ⟨#[104, 101, 97, 100, 101, 114, 115]⟩, .string ⟨#[103, 101, 116, 102, 105, 108, 116, 101, 114]⟩, .string ⟨#[102, 105, 108, 116, 101, 114]⟩, .string ⟨#[103, 101, 116, 112, 114, 111, 111, 102]⟩, .string ⟨#[112, 114, 111, 111, 102]⟩, .string ⟨#[112, 105, 110, 103]⟩, .string ⟨#[112, 111, 110, 103]⟩, .string ⟨#[114, 101, 106, 101, 99, 116]⟩]) (.int .i64 2)).run Try.prog w = .ok (.string ⟨#[103, 101, 116, 102, 105, 108, 116, 101, 114]⟩) w := by kernel_rfl
theorem idx_name3 (w : World) : (Instr.index 56 (.agg #[.string ⟨#[103, 101, 116, 104, 101, 97, 100, 101, 114, 115]⟩, .string ⟨#[104, 101, 97, 100, 101, 114, 115]⟩, .string ⟨#[103, 101, 116, 102, 105, 108, 116, 101, 114]⟩, .string ⟨#[102, 105, 108, 116, 101, 114]⟩, .string ⟨#[103, 101, 116, 112, 114, 111, 111, 102]⟩, .string ⟨#[112, 114, 111, 111, 102]⟩, .string ⟨#[112, 105, 110, 103]⟩, .string ⟨#[112, 111, 110, 103]⟩, .string ⟨#[114, 101, 106, 101, 99, 116]⟩]) (.int .i64 3)).run Try.prog w = .ok (.string ⟨#[102, 105, 108, 116, 101, 114]⟩) w := by kernel_rfl
theorem idx_name4 (w : World) : (Instr.index 56 (.agg #[.string ⟨#[103, 101, 116, 104, 101, 97, 100, 101, 114, 115]⟩, .string ⟨#[104, 101, 97, 100, 101, 114, 115]⟩, .string ⟨#[103, 101, 116, 102, 105, 108, 116, 101, 114]⟩, .string ⟨#[102, 105, 108, 116, 101, 114]⟩, .string ⟨#[103, 101, 116, 112, 114, 111, 111, 102]⟩, .string ⟨#[112, 114, 111, 111, 102]⟩, .string ⟨#[112, 105, 110, 103]⟩, .string ⟨#[112, 111, 110, 103]⟩, .string ⟨#[114, 101, 106, 101, 99, 116]⟩]) (.int .i64 4)).run Try.prog w = .ok (.string ⟨#[103, 101, 116, 112, 114, 111, 111, 102]⟩) w := by kernel_rfl
theorem idx_name5 (w : World) : (Instr.index 56 (.agg #[.string ⟨#[103, 101, 116, 104, 101, 97, 100, 101, 114, 115]⟩, .string ⟨#[104, 101, 97, 100, 101, 114, 115]⟩, .string ⟨#[103, 101, 116, 102, 105, 108, 116, 101, 114]⟩, .string ⟨#[102, 105, 108, 116, 101, 114]⟩, .string ⟨#[103, 101, 116, 112, 114, 111, 111, 102]⟩, .string ⟨#[112, 114, 111, 111, 102]⟩, .string ⟨#[112, 105, 110, 103]⟩, .string ⟨#[112, 111, 110, 103]⟩, .string ⟨#[114, 101, 106, 101, 99, 116]⟩]) (.int .i64 5)).run Try.prog w = .ok (.string ⟨#[112, 114, 111, 111, 102]⟩) w := by kernel_rfl
theorem idx_name6 (w : World) : (Instr.index 56 (.agg #[.string ⟨#[103, 101, 116, 104, 101, 97, 100, 101, 114, 115]⟩, .string ⟨#[104, 101, 97, 100, 101, 114, 115]⟩, .string ⟨#[103, 101, 116, 102, 105, 108, 116, 101, 114]⟩, .string ⟨#[102, 105, 108, 116, 101, 114]⟩, .string ⟨#[103, 101, 116, 112, 114, 111, 111, 102]⟩, .string ⟨#[112, 114, 111, 111, 102]⟩, .string ⟨#[112, 105, 110, 103]⟩, .string ⟨#[112, 111, 110, 103]⟩, .string ⟨#[114, 101, 106, 101, 99, 116]⟩]) (.int .i64 6)).run Try.prog w = .ok (.string ⟨#[112, 105, 110, 103]⟩) w := by kernel_rfl
theorem idx_name7 (w : World) : (Instr.index 56 (.agg #[.string ⟨#[103, 101, 116, 104, 101, 97, 100, 101, 114, 115]⟩, .string ⟨#[104, 101, 97, 100, 101, 114, 115]⟩, .string ⟨#[103, 101, 116, 102, 105, 108, 116, 101, 114]⟩, .string ⟨#[102, 105, 108, 116, 101, 114]⟩, .string ⟨#[103, 101, 116, 112, 114, 111, 111, 102]⟩, .string ⟨#[112, 114, 111, 111, 102]⟩, .string ⟨#[112, 105, 110, 103]⟩, .string ⟨#[112, 111, 110, 103]⟩, .string ⟨#[114, 101, 106, 101, 99, 116]⟩]) (.int .i64 7)).run Try.prog w = .ok (.string ⟨#[112, 111, 110, 103]⟩) w := by kernel_rfl
theorem idx_name8 (w : World) : (Instr.index 56 (.agg #[.string ⟨#[103, 101, 116, 104, 101, 97, 100, 101, 114, 115]⟩, .string ⟨#[104, 101, 97, 100, 101, 114, 115]⟩, .string ⟨#[103, 101, 116, 102, 105, 108, 116, 101, 114]⟩, .string ⟨#[102, 105, 108, 116, 101, 114]⟩, .string ⟨#[103, 101, 116, 112, 114, 111, 111, 102]⟩, .string ⟨#[112, 114, 111, 111, 102]⟩, .string ⟨#[112, 105, 110, 103]⟩, .string ⟨#[112, 111, 110, 103]⟩, .string ⟨#[114, 101, 106, 101, 99, 116]⟩]) (.int .i64 8)).run Try.prog w = .ok (.string ⟨#[114, 101, 106, 101, 99, 116]⟩) w := by kernel_rfl
set_option maxHeartbeats 4000000 in
theorem name_calls (k : Int) (w : World) : Calls Try.prog 8 #[.int .i64 k] w fun e w' => e = .returned (.string (nameM k)) ∧ Below w.heap.size w w' := by
  by_cases h1 : k < 1
  · rw [name_none (Or.inl h1)]
    go_enter Try.func8, Try.ntmps8
    go_wp2_with fail
    go_ret
    exact ⟨rfl, Below.refl _ _⟩
  by_cases h9 : 9 < k
  · rw [name_none (Or.inr h9)]
    go_enter Try.func8, Try.ntmps8
    go_wp2_with fail
    go_ret
    exact ⟨rfl, Below.refl _ _⟩
  rcases kinds (k := k) (by omega) (by omega) with rfl | rfl | rfl | rfl | rfl | rfl | rfl | rfl | rfl
  all_goals
    clear h1 h9
    have i0 := idx_name0 w
    have i1 := idx_name1 w
    have i2 := idx_name2 w
    have i3 := idx_name3 w
    have i4 := idx_name4 w
    have i5 := idx_name5 w
    have i6 := idx_name6 w
    have i7 := idx_name7 w
    have i8 := idx_name8 w
    go_enter Try.func8, Try.ntmps8
    go_wp2_with ((with_reducible show wpList _ _ _ (Oper.mk _ (Op.build _ _) _ _ _ _ :: _) _ _); (go_loud (refine wpl_build rfl 56 _ rfl #[(0, .string ⟨#[103, 101, 116, 104, 101, 97, 100, 101, 114, 115]⟩), (1, .string ⟨#[104, 101, 97, 100, 101, 114, 115]⟩), (2, .string ⟨#[103, 101, 116, 102, 105, 108, 116, 101, 114]⟩), (3, .string ⟨#[102, 105, 108, 116, 101, 114]⟩), (4, .string ⟨#[103, 101, 116, 112, 114, 111, 111, 102]⟩), (5, .string ⟨#[112, 114, 111, 111, 102]⟩), (6, .string ⟨#[112, 105, 110, 103]⟩), (7, .string ⟨#[112, 111, 110, 103]⟩), (8, .string ⟨#[114, 101, 106, 101, 99, 116]⟩)] (by simp [Act.eval]) #[.string ⟨#[103, 101, 116, 104, 101, 97, 100, 101, 114, 115]⟩, .string ⟨#[104, 101, 97, 100, 101, 114, 115]⟩, .string ⟨#[103, 101, 116, 102, 105, 108, 116, 101, 114]⟩, .string ⟨#[102, 105, 108, 116, 101, 114]⟩, .string ⟨#[103, 101, 116, 112, 114, 111, 111, 102]⟩, .string ⟨#[112, 114, 111, 111, 102]⟩, .string ⟨#[112, 105, 110, 103]⟩, .string ⟨#[112, 111, 110, 103]⟩, .string ⟨#[114, 101, 106, 101, 99, 116]⟩] built_names ?_)))
    go_ret
    exact ⟨rfl, Below.refl _ _⟩
end Go.Proofs.Ytfcmdhimlfoofaa.Hand


/- Whether a kind uses a field: walked (msg.uses). -/
namespace Go.Proofs.Ytfcmdhimlfoofaa.Hand
open Go Go.RowKit Go.Proofs.Ytfcmdhimlfoofaa.Plain Go.Proofs.Ytfcmdhimlfoofaa.PAll Go.Proofs.YtfcmdhimlfoofaaW.PrintWords Go.Proofs.YtfcmdhimlfoofaaW.PrintLast Go.Proofs.YtfcmdhimlfoofaaW.PrintMore
set_option linter.unusedVariables false
set_option linter.unusedSimpArgs false
set_option maxRecDepth 100000
attribute [local go_sem ↓] Go.wp_at_zero Go.wp_at_succ
theorem built_rows : Try.prog.built 91 [(1, .int .u16 259), (2, .int .u16 260), (3, .int .u16 16), (4, .int .u16 48), (5, .int .u16 80), (6, .int .u16 208), (7, .int .u16 256), (8, .int .u16 256), (9, .int .u16 856)] = some #[.int .u16 0, .int .u16 259, .int .u16 260, .int .u16 16, .int .u16 48, .int .u16 80, .int .u16 208, .int .u16 256, .int .u16 256, .int .u16 856] := by kernel_rfl
theorem infoRows : (Try.prog.info? 91).map (fun i => (i.zero, i.size)) = some (some (.agg #[.int .u16 0, .int .u16 0, .int .u16 0, .int .u16 0, .int .u16 0, .int .u16 0, .int .u16 0, .int .u16 0, .int .u16 0, .int .u16 0]), 10) := by kernel_rfl
theorem ten {f : Nat} (h : f < 10) : f = 0 ∨ f = 1 ∨ f = 2 ∨ f = 3 ∨ f = 4 ∨ f = 5 ∨ f = 6 ∨ f = 7 ∨ f = 8 ∨ f = 9 := by omega
set_option maxHeartbeats 8000000 in
theorem uses_calls (k : Int) (f : Nat) (w : World) (h1 : 1 ≤ k) (h9 : k ≤ 9) (hf : f < 10) : Calls Try.prog 17 #[.int .i64 k, .int .i64 (f : Int)] w fun e w' => e = .returned (.bool (usesM k f)) ∧ Below w.heap.size w w' := by
  have hz := (zero_of_info infoRows).1
  have hi := (zero_of_info infoRows).2
  have hk := heap_alloc_new w (.cells #[.int .u16 0, .int .u16 259, .int .u16 260, .int .u16 16, .int .u16 48, .int .u16 80, .int .u16 208, .int .u16 256, .int .u16 256, .int .u16 856] 91)
  have HB := Lib.hid (below_alloc (Below.refl w.heap.size w) (.cells #[.int .u16 0, .int .u16 259, .int .u16 260, .int .u16 16, .int .u16 48, .int .u16 80, .int .u16 208, .int .u16 256, .int .u16 256, .int .u16 856] 91))
  rcases kinds h1 h9 with rfl | rfl | rfl | rfl | rfl | rfl | rfl | rfl | rfl
  all_goals
    rcases ten hf with rfl | rfl | rfl | rfl | rfl | rfl | rfl | rfl | rfl | rfl
    all_goals
      clear h1 h9 hf
      have c1 := (blk_cell hk 1).trans (show _ = some (Value.int .u16 259) from rfl)
      have c2 := (blk_cell hk 2).trans (show _ = some (Value.int .u16 260) from rfl)
      have c3 := (blk_cell hk 3).trans (show _ = some (Value.int .u16 16) from rfl)
      have c4 := (blk_cell hk 4).trans (show _ = some (Value.int .u16 48) from rfl)
      have c5 := (blk_cell hk 5).trans (show _ = some (Value.int .u16 80) from rfl)
      have c6 := (blk_cell hk 6).trans (show _ = some (Value.int .u16 208) from rfl)
      have c7 := (blk_cell hk 7).trans (show _ = some (Value.int .u16 256) from rfl)
      have c8 := (blk_cell hk 8).trans (show _ = some (Value.int .u16 256) from rfl)
      have c9 := (blk_cell hk 9).trans (show _ = some (Value.int .u16 856) from rfl)
      go_enter Try.func17, Try.ntmps17
      go_wp2_with (first
        | ((with_reducible show wpList _ _ _ (Oper.mk _ (Op.build _ _) _ _ _ _ :: _) _ _); (go_loud (refine wpl_build rfl 91 _ rfl #[(1, .int .u16 259), (2, .int .u16 260), (3, .int .u16 16), (4, .int .u16 48), (5, .int .u16 80), (6, .int .u16 208), (7, .int .u16 256), (8, .int .u16 256), (9, .int .u16 856)] (by simp [Act.eval]) #[.int .u16 0, .int .u16 259, .int .u16 260, .int .u16 16, .int .u16 48, .int .u16 80, .int .u16 208, .int .u16 256, .int .u16 256, .int .u16 856] built_rows ?_)))
        | ((with_reducible show wpList _ _ _ (Oper.mk _ (Op.store _ (.tmp 5) _) _ _ _ _ :: _) _ _); (go_loud (refine wpl_store_new rfl 91 (.tmp 5) (.tmp 6) rfl #[.int .u16 0, .int .u16 0, .int .u16 0, .int .u16 0, .int .u16 0, .int .u16 0, .int .u16 0, .int .u16 0, .int .u16 0, .int .u16 0] #[.int .u16 0, .int .u16 259, .int .u16 260, .int .u16 16, .int .u16 48, .int .u16 80, .int .u16 208, .int .u16 256, .int .u16 256, .int .u16 856] rfl rfl hi rfl (by simp [Value.oneCell']) ?_))))
      go_ret
      exact ⟨by first | rfl | decide, HB.out⟩
end Go.Proofs.Ytfcmdhimlfoofaa.Hand


/- Whether a message has a field, and whether it is within its bounds: walked (Msg.none, Msg.fits, within). -/
namespace Go.Proofs.Ytfcmdhimlfoofaa.Hand
open Go Go.RowKit Go.Proofs.Ytfcmdhimlfoofaa.Plain Go.Proofs.Ytfcmdhimlfoofaa.PAll Go.Proofs.YtfcmdhimlfoofaaW.PrintWords Go.Proofs.YtfcmdhimlfoofaaW.PrintLast Go.Proofs.YtfcmdhimlfoofaaW.PrintMore
set_option linter.unusedVariables false
set_option linter.unusedSimpArgs false
set_option maxRecDepth 100000
attribute [local go_sem ↓] Go.wp_at_zero Go.wp_at_succ
theorem built_hash : Try.prog.built 28 [] = some (nums .u8 z32m).toArray := by kernel_rfl
theorem infoHS : (Try.prog.info? 28).map (·.size) = some 32 := by kernel_rfl
theorem nat_beq0 (n : Nat) : ((n : Int) == 0) = (n == 0) := by
  cases n <;> rfl
set_option maxHeartbeats 8000000 in
theorem none_calls {w : World} {bx : Nat} {a : MA} {m : MT} (f : Nat) (h : MBox w bx a m) (hf : f < 10) : Calls Try.prog 18 #[.pointer (some ⟨bx, 0, none⟩), .int .i64 (f : Int)] w fun e w' => e = .returned (.bool (noneM m f)) ∧ Below w.heap.size w w' := by
  obtain ⟨c0, c1, c34, c67, c68, c69, c70, c71, c72⟩ := h.cells
  have HST := Lib.hid h.stop
  have HBL := Lib.hid h.block
  have H1 := Lib.hid h.s32
  have H2 := Lib.hid h.b32
  have hz : z32m.length = 32 := rfl
  have q1 := fun u => eqH m.stop z32m h.s32 hz u
  have q2 := fun u => eqH m.block z32m h.b32 hz u
  have HI1 := Lib.hid (show (Try.prog.info? 28).map (·.size) = some (nums .u8 m.stop).length by rw [infoHS]; simp [nums, h.s32])
  have HI2 := Lib.hid (show (Try.prog.info? 28).map (·.size) = some (nums .u8 m.block).length by rw [infoHS]; simp [nums, h.b32])
  have HZ := Lib.hid built_hash
  have HU := Lib.hid Try.underlying28
  obtain ⟨kind, loc, stop, heads, block, item, data, ents, nonce, of_, code⟩ := m
  simp only at c0 c1 c34 c67 c68 c69 c70 c71 c72 HST HBL H1 H2 q1 q2 HI1 HI2
  unfold noneM
  obtain ⟨ZA, hZA⟩ : ∃ A, (nums .u8 z32m).toArray = A := ⟨_, rfl⟩
  obtain ⟨SL, hSL⟩ : ∃ A, nums .u8 stop = A := ⟨_, rfl⟩
  obtain ⟨BL, hBL⟩ : ∃ A, nums .u8 block = A := ⟨_, rfl⟩
  obtain ⟨Z, hZ⟩ : ∃ Z, z32m = Z := ⟨_, rfl⟩
  rw [hSL] at HST HI1
  rw [hBL] at HBL HI2
  rw [hZA] at HZ
  simp only [hZA, hSL, hBL] at q1 q2
  rw [hZ] at q1 q2 ⊢
  clear h hz hZA hSL hBL hZ H1 H2
  rcases ten hf with rfl | rfl | rfl | rfl | rfl | rfl | rfl | rfl | rfl | rfl
  all_goals
    clear hf
    go_enter Try.func18, Try.ntmps18
    go_wp2_with (first
      | ((with_reducible show wpList _ _ _ (Oper.mk _ (Op.build _ _) _ _ _ _ :: _) _ _); (go_loud (refine wpl_build rfl 28 _ rfl #[] (by simp [Act.eval]) ZA HZ.out ?_)))
      | ((with_reducible show wpList _ _ _ (Oper.mk _ (Op.load 28 (.tmp 18)) _ _ _ _ :: _) _ _); (go_loud (refine wpList_load_mid rfl 28 (.tmp 18) rfl bx 2 rfl SL _ HST.out HU.out rfl HI1.out ?_)))
      | ((with_reducible show wpList _ _ _ (Oper.mk _ (Op.load 28 (.tmp 41)) _ _ _ _ :: _) _ _); (go_loud (refine wpList_load_mid rfl 28 (.tmp 41) rfl bx 35 rfl BL _ HBL.out HU.out rfl HI2.out ?_))))
    go_ret
    refine ⟨?_, by first | exact Below.refl _ _ | exact pw_below_drewN (Below.refl _ _) _⟩
    first | rfl | simp [nat_beq0]
theorem leq_dec (n : Nat) (k : Nat) : decide ((n : Int) ≤ (k : Int)) = decide (n ≤ k) := by
  by_cases h : n ≤ k
  · rw [decide_eq_true h, decide_eq_true (by omega)]
  · rw [decide_eq_false h, decide_eq_false (by omega)]
theorem fitE_false {x : ET} (h : ¬ (x.tx.length ≤ 700 ∧ 0 ≤ x.cnt ∧ x.cnt ≤ 65536 ∧ 0 ≤ x.idx ∧ x.idx ≤ 65536 ∧ x.path.length ≤ 16)) : fitE x = false := decide_eq_false h
theorem fitE_true {x : ET} (h : (x.tx.length ≤ 700 ∧ 0 ≤ x.cnt ∧ x.cnt ≤ 65536 ∧ 0 ≤ x.idx ∧ x.idx ≤ 65536 ∧ x.path.length ≤ 16)) : fitE x = true := decide_eq_true h
set_option maxHeartbeats 4000000 in
theorem within_calls {w : World} (A : Option Addr) (n c : Nat) (xs : List ET) (hn : n = xs.length) (hr : Kd.C kE w A n xs) (hc : n ≤ c) : Calls Try.prog 38 #[.slice A n c] w fun e w' => e = .returned (.bool (decide (n ≤ 16) && xs.all fitE)) ∧ Below w.heap.size w w' := by
  have HR := Lib.hid hr
  have HN := Lib.hid hn
  have HC := Lib.hid hc
  by_cases h16 : 16 < n
  · have b1 : decide ((16 : Int) < (n : Int)) = true := decide_eq_true (by omega)
    have e : (decide (n ≤ 16) && xs.all fitE) = false := by rw [decide_eq_false (by omega)]; rfl
    rw [e]
    clear hn hr hc h16 e
    go_enter Try.func38, Try.ntmps38
    go_wp2_with fail
    go_ret
    exact ⟨rfl, Below.refl _ _⟩
  have b1 : decide ((16 : Int) < (n : Int)) = false := decide_eq_false (by omega)
  have H16 := Lib.hid (show n ≤ 16 by omega)
  have e : (decide (n ≤ 16) && xs.all fitE) = xs.all fitE := by rw [decide_eq_true (by omega)]; rfl
  rw [e]
  obtain ⟨AE, hae⟩ : ∃ b, xs.all fitE = b := ⟨_, rfl⟩
  rw [hae]
  have HAE := Lib.hid hae
  clear hn hr hc h16 e hae
  go_enter Try.func38, Try.ntmps38
  go_wp2_with fail
  go_loopw [10] (fun i wr => ∃ k : Int, 0 ≤ k ∧ k ≤ (n : Int) ∧ i = .int .i64 k ∧ Hid (Below w.heap.size w wr ∧ (xs.take k.toNat).all fitE = true)) (fun i _ => ((n : Int) - intOf i).toNat)
  case atStart => exact ⟨0, by omega, by omega, rfl, Lib.hid ⟨Below.refl _ _, by simp⟩⟩
  case round =>
    obtain ⟨k, hk0, hkn, rfl, H⟩ := hrel
    by_cases hlt : k < (n : Int)
    · obtain ⟨hb, hall⟩ := H.out
      obtain ⟨ad, A1, c1, A2, c2, rfl, x0, x1, x2, x3, l1, C1, l2, C2⟩ := at_E (Kd.C_below HR.out hb) k hk0 hlt
      have hlx : k < (xs.length : Int) := by have := HN.out; omega
      have HTK := Lib.hid (takeE hk0 hlx)
      have HMEM := Lib.hid (rdE_mem hk0 hlx)
      obtain ⟨⟨tx, cnt, idx, path⟩, hx⟩ : ∃ x, rdE xs k = x := ⟨_, rfl⟩
      rw [hx] at x0 x1 x2 x3 HTK HMEM
      simp only at x0 x1 x2 x3
      have wk : wrap64 (k + 1) = k + 1 := wrap64_id (by omega) (by have := H16.out; omega)
      have HBA := Lib.hid (hb.alloc hb.size (.cells #[.slice A1 tx.length c1, .int .i64 cnt, .int .i64 idx, .slice A2 path.length c2] 67))
      have HLT := Lib.hid hlt
      have HALL := Lib.hid hall
      clear hb hall hx l1 C1 l2 C2 H hlx
      by_cases hfit : tx.length ≤ 700 ∧ 0 ≤ cnt ∧ cnt ≤ 65536 ∧ 0 ≤ idx ∧ idx ≤ 65536 ∧ path.length ≤ 16
      · have HF := Lib.hid (fitE_true (x := ⟨tx, cnt, idx, path⟩) hfit)
        have g0 : decide ((700 : Int) < (tx.length : Int)) = false := decide_eq_false (by omega)
        have g1 : decide (cnt < 0) = false := decide_eq_false (by omega)
        have g2 : decide (65536 < cnt) = false := decide_eq_false (by omega)
        have g3 : decide (idx < 0) = false := decide_eq_false (by omega)
        have g4 : decide (65536 < idx) = false := decide_eq_false (by omega)
        have g5 : decide ((16 : Int) < (path.length : Int)) = false := decide_eq_false (by omega)
        clear hfit
        go_wp2_with fail
        go_roundw
        case rel => exact ⟨k + 1, by omega, by have := HLT.out; omega, by rw [wk], Lib.hid ⟨HBA.out, by rw [HTK.out, List.all_append, HALL.out]; simpa using HF.out⟩⟩
        case measure => simp [intOf]; have := HLT.out; omega
      · have HF := Lib.hid (fitE_false (x := ⟨tx, cnt, idx, path⟩) hfit)
        have HE : Hid (xs.all fitE = false) := Lib.hid (by rw [List.all_eq_false]; exact ⟨_, HMEM.out, by rw [HF.out]; simp⟩)
        have hae : AE = false := HAE.out.symm.trans HE.out
        clear HAE
        subst hae
        have way : 700 < tx.length ∨ (¬ 700 < tx.length ∧ cnt < 0) ∨ (¬ 700 < tx.length ∧ ¬ cnt < 0 ∧ 65536 < cnt) ∨ (¬ 700 < tx.length ∧ ¬ cnt < 0 ∧ ¬ 65536 < cnt ∧ idx < 0) ∨ (¬ 700 < tx.length ∧ ¬ cnt < 0 ∧ ¬ 65536 < cnt ∧ ¬ idx < 0 ∧ 65536 < idx) ∨ (¬ 700 < tx.length ∧ ¬ cnt < 0 ∧ ¬ 65536 < cnt ∧ ¬ idx < 0 ∧ ¬ 65536 < idx ∧ 16 < path.length) := by omega
        clear hfit
        rcases way with d0 | ⟨d0, d1⟩ | ⟨d0, d1, d2⟩ | ⟨d0, d1, d2, d3⟩ | ⟨d0, d1, d2, d3, d4⟩ | ⟨d0, d1, d2, d3, d4, d5⟩
        · have g0 : decide ((700 : Int) < (tx.length : Int)) = true := decide_eq_true (by omega)
          clear d0
          go_wp2_with fail
          go_ret
          exact ⟨rfl, HBA.out⟩
        · have g0 : decide ((700 : Int) < (tx.length : Int)) = false := decide_eq_false (by omega)
          have g1 : decide (cnt < 0) = true := decide_eq_true d1
          clear d0 d1
          go_wp2_with fail
          go_ret
          exact ⟨rfl, HBA.out⟩
        · have g0 : decide ((700 : Int) < (tx.length : Int)) = false := decide_eq_false (by omega)
          have g1 : decide (cnt < 0) = false := decide_eq_false d1
          have g2 : decide (65536 < cnt) = true := decide_eq_true d2
          clear d0 d1 d2
          go_wp2_with fail
          go_ret
          exact ⟨rfl, HBA.out⟩
        · have g0 : decide ((700 : Int) < (tx.length : Int)) = false := decide_eq_false (by omega)
          have g1 : decide (cnt < 0) = false := decide_eq_false d1
          have g2 : decide (65536 < cnt) = false := decide_eq_false d2
          have g3 : decide (idx < 0) = true := decide_eq_true d3
          clear d0 d1 d2 d3
          go_wp2_with fail
          go_ret
          exact ⟨rfl, HBA.out⟩
        · have g0 : decide ((700 : Int) < (tx.length : Int)) = false := decide_eq_false (by omega)
          have g1 : decide (cnt < 0) = false := decide_eq_false d1
          have g2 : decide (65536 < cnt) = false := decide_eq_false d2
          have g3 : decide (idx < 0) = false := decide_eq_false d3
          have g4 : decide (65536 < idx) = true := decide_eq_true d4
          clear d0 d1 d2 d3 d4
          go_wp2_with fail
          go_ret
          exact ⟨rfl, HBA.out⟩
        · have g0 : decide ((700 : Int) < (tx.length : Int)) = false := decide_eq_false (by omega)
          have g1 : decide (cnt < 0) = false := decide_eq_false d1
          have g2 : decide (65536 < cnt) = false := decide_eq_false d2
          have g3 : decide (idx < 0) = false := decide_eq_false d3
          have g4 : decide (65536 < idx) = false := decide_eq_false d4
          have g5 : decide ((16 : Int) < (path.length : Int)) = true := decide_eq_true (by omega)
          clear d0 d1 d2 d3 d4 d5
          go_wp2_with fail
          go_ret
          exact ⟨rfl, HBA.out⟩
    · obtain ⟨hb, hall⟩ := H.out
      have hkx : k.toNat = xs.length := by have := HN.out; omega
      rw [hkx, List.take_length] at hall
      have hae : AE = true := HAE.out.symm.trans hall
      clear HAE
      subst hae
      have HB := Lib.hid hb
      clear hb hall hkx H
      go_wp2_with fail
      go_ret
      exact ⟨rfl, HB.out⟩
set_option maxHeartbeats 8000000 in
theorem fits_calls {w : World} {bx : Nat} {a : MA} {m : MT} (f : Nat) (h : MBox w bx a m) (hm : MC w a m) (hf : f < 10) : Calls Try.prog 21 #[.pointer (some ⟨bx, 0, none⟩), .int .i64 (f : Int)] w fun e w' => e = .returned (.bool (fitM m f)) ∧ Below w.heap.size w w' := by
  obtain ⟨c0, c1, c34, c67, c68, c69, c70, c71, c72⟩ := h.cells
  have HM := Lib.hid hm
  obtain ⟨kind, loc, stop, heads, block, item, data, ents, nonce, of_, code⟩ := m
  simp only at c0 c1 c34 c67 c68 c69 c70 c71 c72 HM
  have HE := Lib.hid HM.out.ents
  have HEC := Lib.hid HM.out.ec
  simp only at HE HEC
  obtain ⟨ne, hne⟩ : ∃ n, ents.length = n := ⟨_, rfl⟩
  have HNE := Lib.hid hne
  rw [hne] at c69 HE HEC
  unfold fitM
  simp only
  rw [hne, show decide (loc.length ≤ 64) = decide ((loc.length : Int) ≤ 64) from (leq_dec _ 64).symm, show decide (heads.length ≤ 2000) = decide ((heads.length : Int) ≤ 2000) from (leq_dec _ 2000).symm, show decide (data.length ≤ 2048) = decide ((data.length : Int) ≤ 2048) from (leq_dec _ 2048).symm, show decide (item.length ≤ 64) = decide ((item.length : Int) ≤ 64) from (leq_dec _ 64).symm]
  clear h hm HM hne
  rcases ten hf with rfl | rfl | rfl | rfl | rfl | rfl | rfl | rfl | rfl | rfl
  case inr.inr.inr.inl =>
    clear hf
    by_cases h0 : 0 ≤ of_
    · have g0 : decide (0 ≤ of_) = true := decide_eq_true h0
      have e : decide (0 ≤ of_ ∧ of_ ≤ 255) = decide (of_ ≤ 255) := by simp [h0]
      simp only [e]
      clear h0 e
      go_enter Try.func21, Try.ntmps21
      go_wp2_with fail
      go_ret
      exact ⟨rfl, Below.refl _ _⟩
    · have g0 : decide (0 ≤ of_) = false := decide_eq_false h0
      have e : decide (0 ≤ of_ ∧ of_ ≤ 255) = false := by simp [h0]
      simp only [e]
      clear h0 e
      go_enter Try.func21, Try.ntmps21
      go_wp2_with fail
      go_ret
      exact ⟨rfl, Below.refl _ _⟩
  case inr.inr.inr.inr.inr.inr.inr.inl =>
    clear hf
    go_enter Try.func21, Try.ntmps21
    go_wp2_with fail
    refine (within_calls _ _ _ ents HNE.out.symm HE.out HEC.out).mono ?_
    rintro e w1 ⟨rfl, hb⟩
    have HB := Lib.hid hb
    clear hb
    go_wp2
    go_ret
    exact ⟨rfl, HB.out⟩
  case inr.inr.inr.inr.inr.inr.inr.inr.inr =>
    clear hf
    by_cases h0 : 0 ≤ code
    · have g0 : decide (0 ≤ code) = true := decide_eq_true h0
      have e : decide (0 ≤ code ∧ code ≤ 255) = decide (code ≤ 255) := by simp [h0]
      simp only [e]
      clear h0 e
      go_enter Try.func21, Try.ntmps21
      go_wp2_with fail
      go_ret
      exact ⟨rfl, Below.refl _ _⟩
    · have g0 : decide (0 ≤ code) = false := decide_eq_false h0
      have e : decide (0 ≤ code ∧ code ≤ 255) = false := by simp [h0]
      simp only [e]
      clear h0 e
      go_enter Try.func21, Try.ntmps21
      go_wp2_with fail
      go_ret
      exact ⟨rfl, Below.refl _ _⟩
  all_goals
    clear hf
    go_enter Try.func21, Try.ntmps21
    go_wp2_with fail
    go_ret
    refine ⟨?_, by first | exact Below.refl _ _ | exact pw_below_drewN (Below.refl _ _) _⟩
    rfl
end Go.Proofs.Ytfcmdhimlfoofaa.Hand


/- A field is put: walked (hashes, Msg.put). -/
namespace Go.Proofs.Ytfcmdhimlfoofaa.Hand
open Go Go.RowKit Go.Proofs.Ytfcmdhimlfoofaa.Plain Go.Proofs.Ytfcmdhimlfoofaa.PAll Go.Proofs.YtfcmdhimlfoofaaW.PrintWords Go.Proofs.YtfcmdhimlfoofaaW.PrintLast Go.Proofs.YtfcmdhimlfoofaaW.PrintMore
set_option linter.unusedVariables false
set_option linter.unusedSimpArgs false
set_option maxRecDepth 100000
attribute [local go_sem ↓] Go.wp_at_zero Go.wp_at_succ
theorem takeH {xs : List (List Int)} {k : Int} (h0 : 0 ≤ k) (h1 : k < (xs.length : Int)) : (xs.take (k + 1).toNat).flatten = (xs.take k.toNat).flatten ++ rdH xs k.toNat := by
  have hk : k.toNat < xs.length := by omega
  rw [show (k + 1).toNat = k.toNat + 1 by omega, List.take_add_one, List.getElem?_eq_getElem hk, rdH_eq hk, List.flatten_append]
  simp
theorem C_of_range {w : World} {b o : Nat} {p : List Int} (h : w.rangeAt b o (nums .u8 p)) (hl : p.length ≤ 9223372036854775807) : Kd.C (Kd.int .u8) w (some ⟨b, o, none⟩) p.length p := by
  refine ⟨rfl, hl, fun _ => ⟨⟨b, o, none⟩, rfl, fun j x hj => ⟨[.int .u8 x], rfl, rfl, fun i u hu => ?_⟩⟩⟩
  cases i with
  | succ i => simp at hu
  | zero =>
    have : u = .int .u8 x := by simpa using hu.symm
    subst this
    show w.cell? ((⟨b, o, none⟩ : Addr).add (j * 1 + 0)) = _
    rw [Addr.add_mid, Nat.mul_one, Nat.add_zero]
    exact h j _ (by simp only [nums, List.getElem?_map, hj, Option.map_some])
theorem take32 {xs : List (List Int)} (h : ∀ p ∈ xs, p.length = 32) (j : Nat) : (xs.take j).flatten.length ≤ 32 * xs.length := by
  induction xs generalizing j with
  | nil => simp
  | cons x xs ih =>
    cases j with
    | zero => simp
    | succ j =>
      have h1 := h x (by simp)
      have h2 := ih (fun q hq => h q (by simp [hq])) j
      simp only [List.take_succ_cons, List.flatten_cons, List.length_append, List.length_cons]
      omega
/-- A slice in a block of its own. -/
theorem row_one {w : World} {k : Nat} {A : Option Addr} {p : List Int} {tt : TypeId} (h : Kd.C (Kd.int .u8) w A 32 p) (hp : p.length = 32) (hk : w.heap[k]? = some (.cells #[.slice A 32 32] tt (0, 0))) : Kd.C (Kd.slice 5 (Kd.int .u8)) w (some ⟨k, 0, none⟩) 1 [p] := by
  rw [← hp] at h hk
  exact C_row1 hk (Nat.le_refl _) h
set_option maxHeartbeats 4000000 in
theorem hashes_calls {w : World} {B g : Nat} {bs : List Int} (A : Option Addr) (n c : Nat) (xs : List (List Int)) (h : IsC w B g bs) (hn : n = xs.length) (hr : ∀ W : World, Below B w W → Kd.C kH W A n xs) (h32 : ∀ p ∈ xs, p.length = 32) (hc : n ≤ c) (hl : bs.length + 32 * n ≤ 900000) :
    Calls Try.prog 39 #[.pointer (some ⟨g, 0, none⟩), .slice A n c] w fun e w' => e = .returned (.tuple #[]) ∧ IsC w' B g (bs ++ hashesB xs) ∧ Below B w w' ∧ CKeep w w' g := by
  have HW := Lib.hid h
  have HR := Lib.hid hr
  have HN := Lib.hid hn
  have H32 := Lib.hid h32
  have HC := Lib.hid hc
  have HL := Lib.hid hl
  have hu : IntKind.u64.wrap (n : Int) = (n : Int) := u64w_id (by omega) (by omega)
  clear h hr hn h32 hc hl
  go_enter Try.func39, Try.ntmps39
  go_wp2_with fail
  refine (cvar_calls n HW.out (by have := HL.out; omega)).mono ?_
  rintro e w1 ⟨rfl, hw, hb, hk⟩
  have HW1 := Lib.hid hw
  have HB1 := Lib.hid hb
  have HK1 := Lib.hid hk
  clear hw hb hk hu
  go_wp2_with fail
  go_loopw [12] (fun i wr => ∃ k : Int, 0 ≤ k ∧ k ≤ (n : Int) ∧ i = .int .i64 k ∧ Hid (IsC wr B g (bs ++ varB n ++ (xs.take k.toNat).flatten) ∧ Below B w wr ∧ CKeep w wr g)) (fun i _ => ((n : Int) - intOf i).toNat)
  case atStart => exact ⟨0, by omega, by omega, rfl, Lib.hid ⟨by simpa using HW1.out, HB1.out, HK1.out⟩⟩
  case round =>
    obtain ⟨k, hk0, hkn, rfl, H⟩ := hrel
    by_cases hlt : k < (n : Int)
    · obtain ⟨hw, hb, hk⟩ := H.out
      have hcr := HR.out wr hb
      rw [HN.out] at hcr
      obtain ⟨b, o, rfl, hbl, hat⟩ := C_hash hcr (by have := HN.out; omega)
      have hkx : k < (xs.length : Int) := by have := HN.out; omega
      have hlen := take32 H32.out k.toNat
      have HPL := Lib.hid (hat k.toNat (by omega)).2
      have HTK := Lib.hid (takeH hk0 hkx)
      obtain ⟨p, hp⟩ : ∃ p, rdH xs k.toNat = p := ⟨_, rfl⟩
      have HRNG := Lib.hid (show ∀ W : World, Below wr.heap.size wr W → W.rangeAt b (o + k.toNat * 32) (nums .u8 p) from fun W hbw j v hj => by
        have h1 := (hat k.toNat (by omega)).1
        rw [hp] at h1
        exact pw_cell_below hbw (h1 j v hj))
      have HRNGB := Lib.hid (show ∀ W : World, Below B wr W → W.rangeAt b (o + k.toNat * 32) (nums .u8 p) from fun W hbw => by
        have h1 := HR.out W (hb.trans hbw)
        rw [HN.out] at h1
        obtain ⟨b', o', e, _, hat'⟩ := C_hash h1 (by omega)
        injection e with e
        injection e with e1 e2
        subst e1 e2
        have h2 := (hat' k.toNat (by omega)).1
        rwa [hp] at h2)
      rw [hp] at HPL HTK
      obtain ⟨off, hoff⟩ : ∃ x, o + k.toNat * 32 = x := ⟨_, rfl⟩
      rw [hoff] at HRNGB
      have HLEN := Lib.hid (show (bs ++ varB n ++ (xs.take k.toNat).flatten).length + 32 ≤ 1000000 by
        have := HL.out
        have := HN.out
        have := varB_length n
        simp only [List.length_append]
        omega)
      have wk : wrap64 (k + 1) = k + 1 := wrap64_id (by omega) (by have := HL.out; omega)
      have HLT := Lib.hid hlt
      obtain ⟨pre, hpre⟩ : ∃ x, bs ++ varB n ++ (xs.take k.toNat).flatten = x := ⟨_, rfl⟩
      have HPRE := Lib.hid hpre
      rw [hpre] at hw HLEN
      have HWA := Lib.hid (hw.alloc (.cells #[.slice (some ⟨b, off, none⟩) 32 32] 23))
      have HBA := Lib.hid (show Below B wr (wr.alloc (.cells #[.slice (some ⟨b, off, none⟩) 32 32] 23)) from (Below.refl _ _).alloc (by have := hw.1; have := hw.lt; omega) _)
      have HNEW := Lib.hid (show (wr.alloc (.cells #[.slice (some ⟨b, off, none⟩) 32 32] 23)).heap[wr.heap.size]? = some (.cells #[.slice (some ⟨b, off, none⟩) 32 32] 23 (0, 0)) by simpa using heap_alloc_new wr _)
      have HGL := Lib.hid hw.lt
      have HB := Lib.hid hb
      have HK := Lib.hid (hk.below HW.out.lt (below_alloc (Below.refl _ _) (.cells #[.slice (some ⟨b, off, none⟩) 32 32] 23)))
      clear hw hb hk hcr hbl hat hp HRNG hpre H hkx hlen
      go_wp2_with fail
      clear hoff
      refine (cput_calls (some ⟨wr.heap.size, 0, none⟩) 1 [p] HWA.out (fun W' hb' hk' => ?_) (by simp) (by have := HLEN.out; simp [HPL.out]; omega)).mono ?_
      · have h1 := C_of_range (HRNGB.out W' (HBA.out.trans hb')) (by have := HPL.out; omega)
        rw [HPL.out] at h1
        exact row_one h1 HPL.out (hk'.blk (by have := HGL.out; omega) (HWA.out.row HNEW.out (by decide)) HNEW.out)
      rintro e w2 ⟨rfl, hw2, hb2, hk2⟩
      have HW2 := Lib.hid (show IsC w2 B g (bs ++ varB n ++ (xs.take (k + 1).toNat).flatten) by rw [HTK.out, ← List.append_assoc, HPRE.out]; simpa using hw2)
      have HB2 := Lib.hid (HB.out.trans (HBA.out.trans hb2))
      have HK2 := Lib.hid (HK.out.trans hk2)
      clear hw2 hb2 hk2 HWA HBA HNEW
      go_wp2
      go_roundw
      case rel => exact ⟨k + 1, by omega, by have := HLT.out; omega, by rw [wk], Lib.hid ⟨HW2.out, HB2.out, HK2.out⟩⟩
      case measure => simp [intOf]; have := HLT.out; omega
    · obtain ⟨hw, hb, hk⟩ := H.out
      have hkx : k.toNat = xs.length := by have := HN.out; omega
      rw [hkx, List.take_length, HN.out, List.append_assoc] at hw
      have HW2 : Hid (IsC wr B g (bs ++ hashesB xs)) := Lib.hid hw
      have HB2 := Lib.hid hb
      have HK2 := Lib.hid hk
      clear hw hb hk hkx H
      go_wp2_with fail
      go_end0
      exact ⟨rfl, HW2.out, HB2.out, HK2.out⟩
end Go.Proofs.Ytfcmdhimlfoofaa.Hand


/- A field is put: walked (Msg.put), field by field. -/
namespace Go.Proofs.Ytfcmdhimlfoofaa.Hand
open Go Go.RowKit Go.Proofs.Ytfcmdhimlfoofaa.Plain Go.Proofs.Ytfcmdhimlfoofaa.PAll Go.Proofs.YtfcmdhimlfoofaaW.PrintWords Go.Proofs.YtfcmdhimlfoofaaW.PrintLast Go.Proofs.YtfcmdhimlfoofaaW.PrintMore
set_option linter.unusedVariables false
set_option linter.unusedSimpArgs false
set_option maxRecDepth 100000
attribute [local go_sem ↓] Go.wp_at_zero Go.wp_at_succ
set_option maxHeartbeats 4000000 in
theorem put_loc {w : World} {B g bx : Nat} {bs : List Int} {a : MA} {m : MT} (h : IsC w B g bs) (hbx : bx < B) (hbox : MBox w bx a m) (hr : ∀ W : World, Below B w W → MC W a m) (hwf : MWf m) (hfit : fitM m 0 = true) (hl : bs.length ≤ 500000) :
    Calls Try.prog 22 #[.pointer (some ⟨bx, 0, none⟩), .pointer (some ⟨g, 0, none⟩), .int .i64 0] w fun e w' => e = .returned (.tuple #[]) ∧ IsC w' B g (bs ++ putB m 0) ∧ Below B w w' ∧ CKeep w w' g := by
  obtain ⟨c0, c1, c34, c67, c68, c69, c70, c71, c72⟩ := hbox.cells
  have HBOX := Lib.hid hbox
  have HW := Lib.hid h
  have HR := Lib.hid hr
  have HWF := Lib.hid hwf
  have HL := Lib.hid hl
  have HBX := Lib.hid hbx
  have hfit' : m.loc.length ≤ 64 := by exact of_decide_eq_true hfit
  have HFIT := Lib.hid hfit'
  obtain ⟨n, hn⟩ : ∃ n, m.loc.length = n := ⟨_, rfl⟩
  have HN := Lib.hid hn
  have HRL := Lib.hid (show ∀ W : World, Below B w W → Kd.C kH W a.la n m.loc from fun W hb => by rw [← hn]; exact (hr W hb).loc)
  have HLC := Lib.hid (show n ≤ a.lc by rw [← hn]; exact (hr w (Below.refl _ _)).lc)
  rw [hn] at c1
  have e : putB m 0 = hashesB m.loc := rfl
  rw [e]
  clear h hbx hbox hr hwf hfit hl hfit' hn e
  go_enter Try.func22, Try.ntmps22
  go_wp2_with fail
  refine (hashes_calls a.la n a.lc m.loc HW.out HN.out.symm HRL.out (fun p hp => (HWF.out.loc p hp).1) HLC.out (by have := HL.out; have := HFIT.out; have := HN.out; omega)).mono ?_
  rintro e w1 ⟨rfl, hw, hb, hk⟩
  have HW1 := Lib.hid hw
  have HB1 := Lib.hid hb
  have HK1 := Lib.hid hk
  clear hw hb hk
  go_wp2
  go_end0
  exact ⟨rfl, HW1.out, HB1.out, HK1.out⟩
set_option maxHeartbeats 4000000 in
theorem put_stop {w : World} {B g bx : Nat} {bs : List Int} {a : MA} {m : MT} (h : IsC w B g bs) (hbx : bx < B) (hbox : MBox w bx a m) (hr : ∀ W : World, Below B w W → MC W a m) (hwf : MWf m) (hfit : fitM m 1 = true) (hl : bs.length ≤ 500000) :
    Calls Try.prog 22 #[.pointer (some ⟨bx, 0, none⟩), .pointer (some ⟨g, 0, none⟩), .int .i64 1] w fun e w' => e = .returned (.tuple #[]) ∧ IsC w' B g (bs ++ putB m 1) ∧ Below B w w' ∧ CKeep w w' g := by
  obtain ⟨c0, c1, c34, c67, c68, c69, c70, c71, c72⟩ := hbox.cells
  have HBOX := Lib.hid hbox
  have HW := Lib.hid h
  have HR := Lib.hid hr
  have HWF := Lib.hid hwf
  have HL := Lib.hid hl
  have HBX := Lib.hid hbx
  have hfit' : True := by trivial
  have HFIT := Lib.hid hfit'
  have HS := Lib.hid (show m.stop.length = 32 from hwf.stop.1)
  have HWA := Lib.hid (h.alloc (.cells #[.slice (some ⟨bx, 2, none⟩) 32 32] 23))
  have HBA := Lib.hid (show Below B w (w.alloc (.cells #[.slice (some ⟨bx, 2, none⟩) 32 32] 23)) from (Below.refl _ _).alloc (by have := h.1; have := h.lt; omega) _)
  have HNEW := Lib.hid (show (w.alloc (.cells #[.slice (some ⟨bx, 2, none⟩) 32 32] 23)).heap[w.heap.size]? = some (.cells #[.slice (some ⟨bx, 2, none⟩) 32 32] 23 (0, 0)) by simpa using heap_alloc_new w _)
  have HGL := Lib.hid h.lt
  have HROW := Lib.hid (show ∀ W : World, Below B w W → Kd.C (Kd.int .u8) W (some ⟨bx, 2, none⟩) 32 m.stop from fun W hb => by
    have h2 : MBox W bx a m := ⟨(hb.block bx hbx).trans hbox.blk, hbox.s32, hbox.b32⟩
    exact h2.stopC)
  have HKA := Lib.hid ((CKeep.refl w g).below h.lt (below_alloc (Below.refl _ _) (.cells #[.slice (some ⟨bx, 2, none⟩) 32 32] 23)))
  have e : putB m 1 = m.stop := rfl
  rw [e]
  clear h hbx hbox hr hwf hfit hl hfit' e
  go_enter Try.func22, Try.ntmps22
  go_wp2_with fail
  refine (cput_calls (some ⟨w.heap.size, 0, none⟩) 1 [m.stop] HWA.out (fun W' hb' hk' => ?_) (by simp) (by have := HL.out; simp [HS.out]; omega)).mono ?_
  · exact row_one (HROW.out W' (HBA.out.trans hb')) HS.out (hk'.blk (by have := HGL.out; omega) (HWA.out.row HNEW.out (by decide)) HNEW.out)
  rintro e w1 ⟨rfl, hw, hb, hk⟩
  have HW1 := Lib.hid (show IsC w1 B g (bs ++ m.stop) by simpa using hw)
  have HB1 := Lib.hid (HBA.out.trans hb)
  have HK1 := Lib.hid (HKA.out.trans hk)
  clear hw hb hk
  go_wp2
  go_end0
  exact ⟨rfl, HW1.out, HB1.out, HK1.out⟩
set_option maxHeartbeats 4000000 in
theorem put_block {w : World} {B g bx : Nat} {bs : List Int} {a : MA} {m : MT} (h : IsC w B g bs) (hbx : bx < B) (hbox : MBox w bx a m) (hr : ∀ W : World, Below B w W → MC W a m) (hwf : MWf m) (hfit : fitM m 4 = true) (hl : bs.length ≤ 500000) :
    Calls Try.prog 22 #[.pointer (some ⟨bx, 0, none⟩), .pointer (some ⟨g, 0, none⟩), .int .i64 4] w fun e w' => e = .returned (.tuple #[]) ∧ IsC w' B g (bs ++ putB m 4) ∧ Below B w w' ∧ CKeep w w' g := by
  obtain ⟨c0, c1, c34, c67, c68, c69, c70, c71, c72⟩ := hbox.cells
  have HBOX := Lib.hid hbox
  have HW := Lib.hid h
  have HR := Lib.hid hr
  have HWF := Lib.hid hwf
  have HL := Lib.hid hl
  have HBX := Lib.hid hbx
  have hfit' : True := by trivial
  have HFIT := Lib.hid hfit'
  have HS := Lib.hid (show m.block.length = 32 from hwf.block.1)
  have HWA := Lib.hid (h.alloc (.cells #[.slice (some ⟨bx, 35, none⟩) 32 32] 23))
  have HBA := Lib.hid (show Below B w (w.alloc (.cells #[.slice (some ⟨bx, 35, none⟩) 32 32] 23)) from (Below.refl _ _).alloc (by have := h.1; have := h.lt; omega) _)
  have HNEW := Lib.hid (show (w.alloc (.cells #[.slice (some ⟨bx, 35, none⟩) 32 32] 23)).heap[w.heap.size]? = some (.cells #[.slice (some ⟨bx, 35, none⟩) 32 32] 23 (0, 0)) by simpa using heap_alloc_new w _)
  have HGL := Lib.hid h.lt
  have HROW := Lib.hid (show ∀ W : World, Below B w W → Kd.C (Kd.int .u8) W (some ⟨bx, 35, none⟩) 32 m.block from fun W hb => by
    have h2 : MBox W bx a m := ⟨(hb.block bx hbx).trans hbox.blk, hbox.s32, hbox.b32⟩
    exact h2.blockC)
  have HKA := Lib.hid ((CKeep.refl w g).below h.lt (below_alloc (Below.refl _ _) (.cells #[.slice (some ⟨bx, 35, none⟩) 32 32] 23)))
  have e : putB m 4 = m.block := rfl
  rw [e]
  clear h hbx hbox hr hwf hfit hl hfit' e
  go_enter Try.func22, Try.ntmps22
  go_wp2_with fail
  refine (cput_calls (some ⟨w.heap.size, 0, none⟩) 1 [m.block] HWA.out (fun W' hb' hk' => ?_) (by simp) (by have := HL.out; simp [HS.out]; omega)).mono ?_
  · exact row_one (HROW.out W' (HBA.out.trans hb')) HS.out (hk'.blk (by have := HGL.out; omega) (HWA.out.row HNEW.out (by decide)) HNEW.out)
  rintro e w1 ⟨rfl, hw, hb, hk⟩
  have HW1 := Lib.hid (show IsC w1 B g (bs ++ m.block) by simpa using hw)
  have HB1 := Lib.hid (HBA.out.trans hb)
  have HK1 := Lib.hid (HKA.out.trans hk)
  clear hw hb hk
  go_wp2
  go_end0
  exact ⟨rfl, HW1.out, HB1.out, HK1.out⟩
set_option maxHeartbeats 4000000 in
theorem put_of {w : World} {B g bx : Nat} {bs : List Int} {a : MA} {m : MT} (h : IsC w B g bs) (hbx : bx < B) (hbox : MBox w bx a m) (hr : ∀ W : World, Below B w W → MC W a m) (hwf : MWf m) (hfit : fitM m 3 = true) (hl : bs.length ≤ 500000) :
    Calls Try.prog 22 #[.pointer (some ⟨bx, 0, none⟩), .pointer (some ⟨g, 0, none⟩), .int .i64 3] w fun e w' => e = .returned (.tuple #[]) ∧ IsC w' B g (bs ++ putB m 3) ∧ Below B w w' ∧ CKeep w w' g := by
  obtain ⟨c0, c1, c34, c67, c68, c69, c70, c71, c72⟩ := hbox.cells
  have HBOX := Lib.hid hbox
  have HW := Lib.hid h
  have HR := Lib.hid hr
  have HWF := Lib.hid hwf
  have HL := Lib.hid hl
  have HBX := Lib.hid hbx
  have hfit' : 0 ≤ m.of_ ∧ m.of_ ≤ 255 := by exact of_decide_eq_true hfit
  have HFIT := Lib.hid hfit'
  have hu : IntKind.u64.wrap m.of_ = m.of_ := u64w_id hfit'.1 (by omega)
  have hmod : m.of_ % 18446744073709551616 = m.of_ := by omega
  have e : putB m 3 = digs (wid 1) m.of_.toNat := rfl
  rw [e]
  obtain ⟨x, hx⟩ : ∃ x, m.of_ = x := ⟨_, rfl⟩
  rw [hx] at c71 hu hmod hfit' HFIT ⊢
  clear h hbx hbox hr hwf hfit hl hfit' hx e
  go_enter Try.func22, Try.ntmps22
  go_wp2_with fail
  refine (cnum_int x 1 HFIT.out.1 HW.out (by have := HL.out; omega)).mono ?_
  rintro e w1 ⟨rfl, hw, hb, hk⟩
  have HW1 := Lib.hid hw
  have HB1 := Lib.hid hb
  have HK1 := Lib.hid hk
  clear hw hb hk
  go_wp2
  go_end0
  exact ⟨rfl, HW1.out, HB1.out, HK1.out⟩
set_option maxHeartbeats 4000000 in
theorem put_code {w : World} {B g bx : Nat} {bs : List Int} {a : MA} {m : MT} (h : IsC w B g bs) (hbx : bx < B) (hbox : MBox w bx a m) (hr : ∀ W : World, Below B w W → MC W a m) (hwf : MWf m) (hfit : fitM m 9 = true) (hl : bs.length ≤ 500000) :
    Calls Try.prog 22 #[.pointer (some ⟨bx, 0, none⟩), .pointer (some ⟨g, 0, none⟩), .int .i64 9] w fun e w' => e = .returned (.tuple #[]) ∧ IsC w' B g (bs ++ putB m 9) ∧ Below B w w' ∧ CKeep w w' g := by
  obtain ⟨c0, c1, c34, c67, c68, c69, c70, c71, c72⟩ := hbox.cells
  have HBOX := Lib.hid hbox
  have HW := Lib.hid h
  have HR := Lib.hid hr
  have HWF := Lib.hid hwf
  have HL := Lib.hid hl
  have HBX := Lib.hid hbx
  have hfit' : 0 ≤ m.code ∧ m.code ≤ 255 := by exact of_decide_eq_true hfit
  have HFIT := Lib.hid hfit'
  have hu : IntKind.u64.wrap m.code = m.code := u64w_id hfit'.1 (by omega)
  have hmod : m.code % 18446744073709551616 = m.code := by omega
  have e : putB m 9 = digs (wid 1) m.code.toNat := rfl
  rw [e]
  obtain ⟨x, hx⟩ : ∃ x, m.code = x := ⟨_, rfl⟩
  rw [hx] at c72 hu hmod hfit' HFIT ⊢
  clear h hbx hbox hr hwf hfit hl hfit' hx e
  go_enter Try.func22, Try.ntmps22
  go_wp2_with fail
  refine (cnum_int x 1 HFIT.out.1 HW.out (by have := HL.out; omega)).mono ?_
  rintro e w1 ⟨rfl, hw, hb, hk⟩
  have HW1 := Lib.hid hw
  have HB1 := Lib.hid hb
  have HK1 := Lib.hid hk
  clear hw hb hk
  go_wp2
  go_end0
  exact ⟨rfl, HW1.out, HB1.out, HK1.out⟩
set_option maxHeartbeats 4000000 in
theorem put_data {w : World} {B g bx : Nat} {bs : List Int} {a : MA} {m : MT} (h : IsC w B g bs) (hbx : bx < B) (hbox : MBox w bx a m) (hr : ∀ W : World, Below B w W → MC W a m) (hwf : MWf m) (hfit : fitM m 5 = true) (hl : bs.length ≤ 500000) :
    Calls Try.prog 22 #[.pointer (some ⟨bx, 0, none⟩), .pointer (some ⟨g, 0, none⟩), .int .i64 5] w fun e w' => e = .returned (.tuple #[]) ∧ IsC w' B g (bs ++ putB m 5) ∧ Below B w w' ∧ CKeep w w' g := by
  obtain ⟨c0, c1, c34, c67, c68, c69, c70, c71, c72⟩ := hbox.cells
  have HBOX := Lib.hid hbox
  have HW := Lib.hid h
  have HR := Lib.hid hr
  have HWF := Lib.hid hwf
  have HL := Lib.hid hl
  have HBX := Lib.hid hbx
  have hfit' : m.data.length ≤ 2048 := by exact of_decide_eq_true hfit
  have HFIT := Lib.hid hfit'
  have HRL := Lib.hid (show ∀ W : World, Below B w W → Kd.C (Kd.int .u8) W a.da m.data.length m.data from fun W hb => (hr W hb).data)
  have HLC := Lib.hid (hr w (Below.refl _ _)).dc
  have e : putB m 5 = varB m.data.length ++ m.data := rfl
  rw [e]
  obtain ⟨x, hx⟩ : ∃ x, m.data = x := ⟨_, rfl⟩
  rw [hx] at c68 hfit' HFIT HRL HLC ⊢
  clear h hbx hbox hr hwf hfit hl hfit' hx e
  go_enter Try.func22, Try.ntmps22
  go_wp2_with fail
  refine (ctext_calls a.da a.dc x HW.out (fun W' hb' _ => HRL.out W' hb') HLC.out (by have := HL.out; have := HFIT.out; omega)).mono ?_
  rintro e w1 ⟨rfl, hw, hb, hk⟩
  have HW1 := Lib.hid hw
  have HB1 := Lib.hid hb
  have HK1 := Lib.hid hk
  clear hw hb hk
  go_wp2
  go_end0
  exact ⟨rfl, HW1.out, HB1.out, HK1.out⟩
set_option maxHeartbeats 4000000 in
theorem put_item {w : World} {B g bx : Nat} {bs : List Int} {a : MA} {m : MT} (h : IsC w B g bs) (hbx : bx < B) (hbox : MBox w bx a m) (hr : ∀ W : World, Below B w W → MC W a m) (hwf : MWf m) (hfit : fitM m 6 = true) (hl : bs.length ≤ 500000) :
    Calls Try.prog 22 #[.pointer (some ⟨bx, 0, none⟩), .pointer (some ⟨g, 0, none⟩), .int .i64 6] w fun e w' => e = .returned (.tuple #[]) ∧ IsC w' B g (bs ++ putB m 6) ∧ Below B w w' ∧ CKeep w w' g := by
  obtain ⟨c0, c1, c34, c67, c68, c69, c70, c71, c72⟩ := hbox.cells
  have HBOX := Lib.hid hbox
  have HW := Lib.hid h
  have HR := Lib.hid hr
  have HWF := Lib.hid hwf
  have HL := Lib.hid hl
  have HBX := Lib.hid hbx
  have hfit' : m.item.length ≤ 64 := by exact of_decide_eq_true hfit
  have HFIT := Lib.hid hfit'
  have HRL := Lib.hid (show ∀ W : World, Below B w W → Kd.C (Kd.int .u8) W a.ia m.item.length m.item from fun W hb => (hr W hb).item)
  have HLC := Lib.hid (hr w (Below.refl _ _)).ic
  have e : putB m 6 = varB m.item.length ++ m.item := rfl
  rw [e]
  obtain ⟨x, hx⟩ : ∃ x, m.item = x := ⟨_, rfl⟩
  rw [hx] at c67 hfit' HFIT HRL HLC ⊢
  clear h hbx hbox hr hwf hfit hl hfit' hx e
  go_enter Try.func22, Try.ntmps22
  go_wp2_with fail
  refine (ctext_calls a.ia a.ic x HW.out (fun W' hb' _ => HRL.out W' hb') HLC.out (by have := HL.out; have := HFIT.out; omega)).mono ?_
  rintro e w1 ⟨rfl, hw, hb, hk⟩
  have HW1 := Lib.hid hw
  have HB1 := Lib.hid hb
  have HK1 := Lib.hid hk
  clear hw hb hk
  go_wp2
  go_end0
  exact ⟨rfl, HW1.out, HB1.out, HK1.out⟩
set_option maxHeartbeats 4000000 in
theorem put_nonce {w : World} {B g bx : Nat} {bs : List Int} {a : MA} {m : MT} (h : IsC w B g bs) (hbx : bx < B) (hbox : MBox w bx a m) (hr : ∀ W : World, Below B w W → MC W a m) (hwf : MWf m) (hfit : fitM m 8 = true) (hl : bs.length ≤ 500000) :
    Calls Try.prog 22 #[.pointer (some ⟨bx, 0, none⟩), .pointer (some ⟨g, 0, none⟩), .int .i64 8] w fun e w' => e = .returned (.tuple #[]) ∧ IsC w' B g (bs ++ putB m 8) ∧ Below B w w' ∧ CKeep w w' g := by
  obtain ⟨c0, c1, c34, c67, c68, c69, c70, c71, c72⟩ := hbox.cells
  have HBOX := Lib.hid hbox
  have HW := Lib.hid h
  have HR := Lib.hid hr
  have HWF := Lib.hid hwf
  have HL := Lib.hid hl
  have HBX := Lib.hid hbx
  have hfit' : 0 ≤ m.nonce := by exact hwf.nonce.1
  have HFIT := Lib.hid hfit'
  have e : putB m 8 = digs (wid 8) m.nonce.toNat := rfl
  rw [e]
  obtain ⟨x, hx⟩ : ∃ x, m.nonce = x := ⟨_, rfl⟩
  rw [hx] at c70 hfit' HFIT ⊢
  clear h hbx hbox hr hwf hfit hl hfit' hx e
  go_enter Try.func22, Try.ntmps22
  go_wp2_with fail
  refine (cnum_int x 8 HFIT.out HW.out (by have := HL.out; omega)).mono ?_
  rintro e w1 ⟨rfl, hw, hb, hk⟩
  have HW1 := Lib.hid hw
  have HB1 := Lib.hid hb
  have HK1 := Lib.hid hk
  clear hw hb hk
  go_wp2
  go_end0
  exact ⟨rfl, HW1.out, HB1.out, HK1.out⟩
end Go.Proofs.Ytfcmdhimlfoofaa.Hand


/- The headers are put: walked (Msg.put). -/
namespace Go.Proofs.Ytfcmdhimlfoofaa.Hand
open Go Go.RowKit Go.Proofs.Ytfcmdhimlfoofaa.Plain Go.Proofs.Ytfcmdhimlfoofaa.PAll Go.Proofs.YtfcmdhimlfoofaaW.PrintWords Go.Proofs.YtfcmdhimlfoofaaW.PrintLast Go.Proofs.YtfcmdhimlfoofaaW.PrintMore
set_option linter.unusedVariables false
set_option linter.unusedSimpArgs false
set_option maxRecDepth 100000
attribute [local go_sem ↓] Go.wp_at_zero Go.wp_at_succ
set_option maxHeartbeats 4000000 in
theorem put_heads {w : World} {B g bx : Nat} {bs : List Int} {a : MA} {m : MT} (h : IsC w B g bs) (hbx : bx < B) (hbox : MBox w bx a m) (hr : ∀ W : World, Below B w W → MC W a m) (hwf : MWf m) (hfit : fitM m 2 = true) (hl : bs.length ≤ 500000) :
    Calls Try.prog 22 #[.pointer (some ⟨bx, 0, none⟩), .pointer (some ⟨g, 0, none⟩), .int .i64 2] w fun e w' => e = .returned (.tuple #[]) ∧ IsC w' B g (bs ++ putB m 2) ∧ Below B w w' ∧ CKeep w w' g := by
  obtain ⟨c0, c1, c34, c67, c68, c69, c70, c71, c72⟩ := hbox.cells
  have HC34 := Lib.hid (show ∀ W : World, Below B w W → W.cell? ⟨bx, 34, none⟩ = some (.slice a.ha m.heads.length a.hc) from fun W hb => (hb.cell (p := ⟨bx, 34, none⟩) hbx).trans c34)
  have HW := Lib.hid h
  have HL := Lib.hid hl
  have hfit' : m.heads.length ≤ 2000 := of_decide_eq_true hfit
  have HR := Lib.hid (show ∀ W : World, Below B w W → Kd.C kHd W a.ha m.heads.length m.heads from fun W hb => (hr W hb).heads)
  have HOKS := Lib.hid hwf.heads
  have e : putB m 2 = varB m.heads.length ++ m.heads.flatMap hdB := rfl
  rw [e]
  obtain ⟨xs, hxs⟩ : ∃ xs, m.heads = xs := ⟨_, rfl⟩
  rw [hxs] at HC34 hfit' HR HOKS c34 ⊢
  obtain ⟨n, hn⟩ : ∃ n, xs.length = n := ⟨_, rfl⟩
  have HN := Lib.hid hn.symm
  rw [hn] at HC34 hfit' HR c34 ⊢
  have HN2 := Lib.hid hfit'
  have hu : IntKind.u64.wrap (n : Int) = (n : Int) := u64w_id (by omega) (by omega)
  obtain ⟨A, hA⟩ : ∃ A, a.ha = A := ⟨_, rfl⟩
  obtain ⟨c, hc⟩ : ∃ c, a.hc = c := ⟨_, rfl⟩
  rw [hA, hc] at c34
  rw [hA, hc] at HC34
  rw [hA] at HR
  clear h hbx hbox hr hwf hfit hl hfit' hxs hn e hA hc c0 c1 c67 c68 c69 c70 c71 c72
  go_enter Try.func22, Try.ntmps22
  go_wp2_with fail
  refine (cvar_calls n HW.out (by have := HL.out; omega)).mono ?_
  rintro e w1 ⟨rfl, hw, hb, hk⟩
  have HW1 := Lib.hid hw
  have HB1 := Lib.hid hb
  have HK1 := Lib.hid hk
  have c34' := HC34.out _ hb
  clear hw hb hk hu c34
  go_wp2_with fail
  clear c34'
  go_loopw [43] (fun i wr => ∃ k : Int, 0 ≤ k ∧ k ≤ (n : Int) ∧ i = .int .i64 k ∧ Hid (IsC wr B g (bs ++ varB n ++ (xs.take k.toNat).flatMap hdB) ∧ Below B w wr ∧ CKeep w wr g)) (fun i _ => ((n : Int) - intOf i).toNat)
  case atStart => exact ⟨0, by omega, by omega, rfl, Lib.hid ⟨by simpa using HW1.out, HB1.out, HK1.out⟩⟩
  case round =>
    obtain ⟨k, hk0, hkn, rfl, H⟩ := hrel
    by_cases hlt : k < (n : Int)
    · obtain ⟨hw, hb, hk⟩ := H.out
      have hcr := HR.out wr hb
      rw [HN.out] at hcr
      obtain ⟨b, o, rfl, hbl, hat⟩ := C_heads hcr (by have := HN.out; omega)
      have hkx : k < (xs.length : Int) := by have := HN.out; omega
      obtain ⟨hrg, hp32, hr32⟩ := hat k.toNat (by omega)
      have HTK := Lib.hid (takeHd hk0 hkx)
      have hok : HOk (rdHd xs k.toNat) := by rw [rdHd_eq (by omega)]; exact HOKS.out _ (List.getElem_mem _)
      have hlen := hds_len (l := xs.take k.toNat) (fun x hx => HOKS.out x (List.mem_of_mem_take hx))
      have hlen2 : (xs.take k.toNat).length ≤ n := by rw [List.length_take]; have := HN.out; omega
      obtain ⟨⟨v, p, r, t, bb, nn⟩, hx⟩ : ∃ x, rdHd xs k.toNat = x := ⟨_, rfl⟩
      rw [hx] at hrg hp32 hr32 HTK hok
      simp only at hp32 hr32
      have HOK := Lib.hid hok
      have HRG := Lib.hid (show wr.rangeAt b (o + k.toNat * 68) (hcells v p r t bb nn) from hrg)
      have hsz := hsize v p r t bb nn hp32 hr32
      obtain ⟨C, hC⟩ : ∃ C, (hcells v p r t bb nn) = C := ⟨_, rfl⟩
      have HHV := Lib.hid (show hV v p r t bb nn = .agg C.toArray by rw [hV, hC])
      rw [hC] at HRG hsz
      have hcl : C.length = 68 := by rw [← hC]; exact hcells_len _ _ _ _ _ _ hp32 hr32
      have HSZ := Lib.hid (show (Try.prog.info? 54).map (·.size) = some C.length by simpa using hsz)
      have HSZ2 := Lib.hid (show (Try.prog.info? 54).map (·.size) = some C.toArray.size by simpa using hsz)
      have HONE := Lib.hid (show C.toArray.all (·.oneCell') = true by rw [← hC]; exact all_oneCell_toArray (hcells_one1 v p r t bb nn))
      have hz := (zero_of_info infoH).1
      obtain ⟨Z, hZ⟩ : ∃ Z, (hcells 0 z32 z32 0 0 0).toArray = Z := ⟨_, rfl⟩
      rw [hZ] at hz
      have HZS := Lib.hid (show Z.size = C.toArray.size by rw [← hZ]; simp [hcl]; rw [hcells_len _ _ _ _ _ _ (by decide) (by decide)])
      obtain ⟨CA, hCA⟩ : ∃ CA, C.toArray = CA := ⟨_, rfl⟩
      rw [hCA] at HSZ2 HONE HZS HHV
      have HU := Lib.hid Try.underlying54
      have HCA := Lib.hid hCA
      have HNEW := Lib.hid (show (wr.alloc (.cells CA 54)).heap[wr.heap.size]? = some (.cells CA 54 (0, 0)) by simpa using heap_alloc_new wr _)
      have HLEN := Lib.hid (show (bs ++ varB n ++ (xs.take k.toNat).flatMap hdB).length + 80 ≤ 1000000 by
        have := HL.out
        have := HN2.out
        have := varB_length n
        simp only [List.length_append]
        omega)
      have HDB := Lib.hid (show headB v p r t bb nn = hdB ⟨v, p, r, t, bb, nn⟩ from rfl)
      have HDL := Lib.hid (hdB_len hok)
      have wk : wrap64 (k + 1) = k + 1 := wrap64_id (by omega) (by have := HN2.out; omega)
      have HLT := Lib.hid hlt
      have HWA := Lib.hid (hw.alloc (.cells CA 54))
      have HBA := Lib.hid (show Below B wr (wr.alloc (.cells CA 54)) from (Below.refl _ _).alloc (by have := hw.1; have := hw.lt; omega) _)
      have HKA := Lib.hid (hk.below HW.out.lt (below_alloc (Below.refl _ _) (.cells CA 54)))
      have HB := Lib.hid hb
      have HGL := Lib.hid hw.lt
      clear hrg hp32 hr32 hok hsz hC hcl hZ hCA hcr hbl hat hx hw hb hk H hlen hlen2 hkx
      go_wp2_with (first
        | ((with_reducible show wpList _ _ _ (Oper.mk _ (Op.load 54 (.tmp 45)) _ _ _ _ :: _) _ _); (go_loud (refine wpList_load_mid rfl 54 (.tmp 45) rfl b (o + k.toNat * 68) rfl C _ HRG.out HU.out rfl HSZ.out ?_)); rw [HCA.out])
        | ((with_reducible show wpList _ _ _ (Oper.mk _ (Op.store _ (.tmp 7) _) _ _ _ _ :: _) _ _); (go_loud (refine wpl_store_new rfl 54 (.tmp 7) (.tmp 46) rfl Z CA rfl rfl HSZ2.out HZS.out HONE.out ?_)))
        | ((with_reducible show wpList _ _ _ (Oper.mk _ (Op.load 54 (.tmp 7)) _ _ _ _ :: _) _ _); (go_loud (refine wpList_load_row rfl 54 (.tmp 7) rfl wr.heap.size rfl 54 CA (0, 0) _ HNEW.out HU.out rfl HSZ2.out ?_))))
      rw [← HHV.out]
      have HQ := HOK.out
      refine (hbytes_calls v p r t bb nn _ HQ.p32 HQ.r32 HQ.v0 HQ.v1 HQ.t0 HQ.t1 HQ.b0 HQ.b1 HQ.n0 HQ.n1).mono ?_
      rintro e w2 ⟨x, rfl, hv2, hb2⟩
      rw [HDB.out] at hv2
      obtain ⟨D, hD⟩ : ∃ D, hdB ⟨v, p, r, t, bb, nn⟩ = D := ⟨_, rfl⟩
      rw [hD] at hv2 HTK HDL
      obtain ⟨A1, c1, rfl, hle1, hC1⟩ := Kd.R_reads hv2
      obtain ⟨W1, hW1⟩ : ∃ W1, wr.alloc (.cells CA 54) = W1 := ⟨_, rfl⟩
      rw [hW1] at hv2 hb2 HWA HBA HKA
      have HR2 := Lib.hid hv2
      have HW2 := Lib.hid (HWA.out.below hb2)
      have HB2 := Lib.hid (HBA.out.trans (Below.mono hb2 (by have := HWA.out.1; have := HWA.out.lt; omega)))
      have HK2 := Lib.hid (HKA.out.below HW.out.lt hb2)
      have HGB := Lib.hid (show g < W1.heap.size from HWA.out.lt)
      have HROWLT := Lib.hid (show ∀ k, rowAt w2 g = some k → k < W1.heap.size by
        have e1 : rowAt w2 g = rowAt W1 g := by
          unfold rowAt
          rw [World.cell?_of_block (w := W1) (hb2.block g HWA.out.lt)]
        rw [e1]
        exact HWA.out.rowlt)
      rw [HDL.out] at hle1
      rw [HDL.out]
      have HLE1 := Lib.hid hle1
      have HWB := Lib.hid (HW2.out.alloc (.cells #[.slice A1 80 c1] 23))
      have HBB := Lib.hid (show Below B w2 (w2.alloc (.cells #[.slice A1 80 c1] 23)) from (Below.refl _ _).alloc (by have := HW2.out.1; have := HW2.out.lt; omega) _)
      have HKB := Lib.hid (HK2.out.below HW.out.lt (below_alloc (Below.refl _ _) (.cells #[.slice A1 80 c1] 23)))
      have HNB := Lib.hid (show (w2.alloc (.cells #[.slice A1 80 c1] 23)).heap[w2.heap.size]? = some (.cells #[.slice A1 80 c1] 23 (0, 0)) by simpa using heap_alloc_new w2 _)
      have HG2 := Lib.hid HW2.out.lt
      clear hv2 hb2 hC1 hW1 hD hle1 HWA HKA HNEW
      go_wp2_with fail
      refine (cput_calls (some ⟨w2.heap.size, 0, none⟩) 1 [D] HWB.out (fun W' hb' hk' => ?_) (by simp) (by have := HLEN.out; have := HDL.out; simp only [List.flatten_cons, List.flatten_nil, List.append_nil]; omega)).mono ?_
      · have hk3 := ((CKeep.refl w2 g).below HW2.out.lt (below_alloc (Below.refl _ _) (.cells #[.slice A1 80 c1] 23))).trans hk'
        have hR3 := R_ckeep HR2.out hk3 HGB.out HROWLT.out
        rw [HDL.out] at hR3
        have h3 := (Kd.R_reads' hR3).2.2
        have h4 := (hk'.blk (by have := HG2.out; omega) (HWB.out.row HNB.out (by decide)) HNB.out)
        have hle := HLE1.out
        rw [← HDL.out] at h4 hle
        exact C_row1 h4 hle h3
      rintro e w3 ⟨rfl, hw3, hb3, hk3⟩
      have HW3 := Lib.hid (show IsC w3 B g (bs ++ varB n ++ (xs.take (k + 1).toNat).flatMap hdB) by rw [HTK.out, ← List.append_assoc]; simpa using hw3)
      have HB3 := Lib.hid (HB.out.trans (HB2.out.trans (HBB.out.trans hb3)))
      have HK3 := Lib.hid (HKB.out.trans hk3)
      clear hw3 hb3 hk3 HWB HBB HNB
      go_wp2
      go_roundw
      case rel => exact ⟨k + 1, by omega, by have := HLT.out; omega, by rw [wk], Lib.hid ⟨HW3.out, HB3.out, HK3.out⟩⟩
      case measure => simp [intOf]; have := HLT.out; omega
    · obtain ⟨hw, hb, hk⟩ := H.out
      have hkx : k.toNat = xs.length := by have := HN.out; omega
      rw [hkx, List.take_length, List.append_assoc] at hw
      have HW2 := Lib.hid hw
      have HB2 := Lib.hid hb
      have HK2 := Lib.hid hk
      clear hw hb hk hkx H
      go_wp2_with fail
      go_end0
      exact ⟨rfl, HW2.out, HB2.out, HK2.out⟩
end Go.Proofs.Ytfcmdhimlfoofaa.Hand


/- The entries are put: walked (Msg.put); and any field. -/
namespace Go.Proofs.Ytfcmdhimlfoofaa.Hand
open Go Go.RowKit Go.Proofs.Ytfcmdhimlfoofaa.Plain Go.Proofs.Ytfcmdhimlfoofaa.PAll Go.Proofs.YtfcmdhimlfoofaaW.PrintWords Go.Proofs.YtfcmdhimlfoofaaW.PrintLast Go.Proofs.YtfcmdhimlfoofaaW.PrintMore
set_option linter.unusedVariables false
set_option linter.unusedSimpArgs false
set_option maxRecDepth 100000
attribute [local go_sem ↓] Go.wp_at_zero Go.wp_at_succ
theorem cvar_int {w : World} {B g : Nat} {bs : List Int} (x : Int) (hx : 0 ≤ x) (h : IsC w B g bs) (hl : bs.length ≤ 999000) :
    Calls Try.prog 41 #[.pointer (some ⟨g, 0, none⟩), .int .u64 x] w fun e w' => e = .returned (.tuple #[]) ∧ IsC w' B g (bs ++ varB x.toNat) ∧ Below B w w' ∧ CKeep w w' g := by
  obtain ⟨n, rfl⟩ := Int.eq_ofNat_of_zero_le hx
  exact cvar_calls n h hl
theorem takeEB {xs : List ET} {k : Int} (h0 : 0 ≤ k) (h1 : k < (xs.length : Int)) : (xs.take (k + 1).toNat).flatMap entB = (xs.take k.toNat).flatMap entB ++ entB (rdE xs k) := by
  rw [takeE h0 h1]
  simp only [List.flatMap_append, List.flatMap_cons, List.flatMap_nil, List.append_nil]
set_option maxHeartbeats 4000000 in
theorem put_ents {w0 w : World} {B g bx : Nat} {bs : List Int} {a : MA} {m : MT} (hB0 : w0.heap.size = B) (hb0 : Below B w0 w) (h : IsC w B g bs) (hbx : bx < B) (hbox : MBox w bx a m) (hm : MC w0 a m) (hwf : MWf m) (hfit : fitM m 7 = true) (hl : bs.length ≤ 500000) :
    Calls Try.prog 22 #[.pointer (some ⟨bx, 0, none⟩), .pointer (some ⟨g, 0, none⟩), .int .i64 7] w fun e w' => e = .returned (.tuple #[]) ∧ IsC w' B g (bs ++ putB m 7) ∧ Below B w w' ∧ CKeep w w' g := by
  obtain ⟨c0, c1, c34, c67, c68, c69, c70, c71, c72⟩ := hbox.cells
  have HC69 := Lib.hid (show ∀ W : World, Below B w W → W.cell? ⟨bx, 69, none⟩ = some (.slice a.ea m.ents.length a.ec) from fun W hb => (hb.cell (p := ⟨bx, 69, none⟩) hbx).trans c69)
  have HW := Lib.hid h
  have HL := Lib.hid hl
  simp only [fitM, Bool.and_eq_true, List.all_eq_true] at hfit
  have hfit' : m.ents.length ≤ 16 := of_decide_eq_true hfit.1
  have HF := Lib.hid hfit.2
  have HR := Lib.hid hm.ents
  have HW0 := Lib.hid (show ∀ W : World, Below B w W → Below w0.heap.size w0 W from fun W hb => by rw [hB0]; exact hb0.trans hb)
  have H32 := Lib.hid (show ∀ x ∈ m.ents, ∀ p ∈ x.path, p.length = 32 from fun x hx p hp => ((hwf.ents x hx).2 p hp).1)
  have e : putB m 7 = varB m.ents.length ++ m.ents.flatMap entB := rfl
  rw [e]
  obtain ⟨xs, hxs⟩ : ∃ xs, m.ents = xs := ⟨_, rfl⟩
  rw [hxs] at HC69 hfit' HR HF H32 c69 ⊢
  obtain ⟨n, hn⟩ : ∃ n, xs.length = n := ⟨_, rfl⟩
  have HN := Lib.hid hn.symm
  rw [hn] at HC69 hfit' HR c69 ⊢
  have HN2 := Lib.hid hfit'
  have hu : IntKind.u64.wrap (n : Int) = (n : Int) := u64w_id (by omega) (by omega)
  obtain ⟨A, hA⟩ : ∃ A, a.ea = A := ⟨_, rfl⟩
  obtain ⟨c, hc⟩ : ∃ c, a.ec = c := ⟨_, rfl⟩
  rw [hA, hc] at c69
  rw [hA, hc] at HC69
  rw [hA] at HR
  clear h hbx hbox hm hB0 hb0 hwf hfit hl hfit' hxs hn e hA hc c0 c1 c67 c68 c34 c70 c71 c72
  go_enter Try.func22, Try.ntmps22
  go_wp2_with fail
  refine (cvar_calls n HW.out (by have := HL.out; omega)).mono ?_
  rintro e w1 ⟨rfl, hw, hb, hk⟩
  have HW1 := Lib.hid hw
  have HB1 := Lib.hid hb
  have HK1 := Lib.hid hk
  have c69' := HC69.out _ hb
  clear hw hb hk hu c69
  go_wp2_with fail
  clear c69'
  go_loopw [102] (fun i wr => ∃ k : Int, 0 ≤ k ∧ k ≤ (n : Int) ∧ i = .int .i64 k ∧ Hid (IsC wr B g (bs ++ varB n ++ (xs.take k.toNat).flatMap entB) ∧ Below B w wr ∧ CKeep w wr g)) (fun i _ => ((n : Int) - intOf i).toNat)
  case atStart => exact ⟨0, by omega, by omega, rfl, Lib.hid ⟨by simpa using HW1.out, HB1.out, HK1.out⟩⟩
  case round =>
    obtain ⟨k, hk0, hkn, rfl, H⟩ := hrel
    by_cases hlt : k < (n : Int)
    · obtain ⟨hw, hb, hk⟩ := H.out
      have hkx : k < (xs.length : Int) := by have := HN.out; omega
      obtain ⟨ad, A1, c1, A2, c2, rfl, x0, x1, x2, x3, l1, C1, l2, C2⟩ := at_E HR.out k hk0 hlt
      have HC12 := Lib.hid (show ∀ W : World, Below B wr W → Kd.C (Kd.int .u8) W A1 (rdE xs k).tx.length (rdE xs k).tx ∧ Kd.C kH W A2 (rdE xs k).path.length (rdE xs k).path from fun W hbw => ⟨Kd.C_below C1 (HW0.out W (hb.trans hbw)), Kd.C_below C2 (HW0.out W (hb.trans hbw))⟩)
      replace x0 := pw_cell_below (HW0.out _ hb) x0
      replace x1 := pw_cell_below (HW0.out _ hb) x1
      replace x2 := pw_cell_below (HW0.out _ hb) x2
      replace x3 := pw_cell_below (HW0.out _ hb) x3
      have HTK := Lib.hid (takeEB hk0 hkx)
      have hfe := HF.out _ (rdE_mem hk0 hkx)
      have h32 := H32.out _ (rdE_mem hk0 hkx)
      have hlen := ents_len (l := xs.take k.toNat) (fun x hx => HF.out x (List.mem_of_mem_take hx)) (fun x hx => H32.out x (List.mem_of_mem_take hx))
      have hlen2 : (xs.take k.toNat).length ≤ n := by rw [List.length_take]; have := HN.out; omega
      obtain ⟨⟨tx, cnt, idx, path⟩, hx⟩ : ∃ x, rdE xs k = x := ⟨_, rfl⟩
      rw [hx] at x0 x1 x2 x3 l1 l2 HC12 HTK hfe h32
      simp only at x0 x1 x2 x3 l1 l2 HC12 h32
      obtain ⟨f1, f2, f3, f4, f5, f6⟩ := of_decide_eq_true hfe
      simp only at f1 f2 f3 f4 f5 f6
      have HFE := Lib.hid (And.intro f1 (And.intro f2 (And.intro f3 (And.intro f4 (And.intro f5 f6)))))
      have H32' := Lib.hid h32
      have HLEN := Lib.hid (show (bs ++ varB n ++ (xs.take k.toNat).flatMap entB).length ≤ 530000 by
        have := HL.out
        have := HN2.out
        have := varB_length n
        simp only [List.length_append]
        omega)
      have HEB := Lib.hid (show entB ⟨tx, cnt, idx, path⟩ = varB tx.length ++ tx ++ varB cnt.toNat ++ varB idx.toNat ++ hashesB path from rfl)
      obtain ⟨pre, hpre⟩ : ∃ x, bs ++ varB n ++ (xs.take k.toNat).flatMap entB = x := ⟨_, rfl⟩
      have HPRE := Lib.hid hpre
      rw [hpre] at hw HLEN
      have HL1 := Lib.hid l1
      have HL2 := Lib.hid l2
      have u1 : IntKind.u64.wrap cnt = cnt := u64w_id f2 (by omega)
      have u2 : IntKind.u64.wrap idx = idx := u64w_id f4 (by omega)
      have u1' : cnt % 18446744073709551616 = cnt := by omega
      have u2' : idx % 18446744073709551616 = idx := by omega
      have wk : wrap64 (k + 1) = k + 1 := wrap64_id (by omega) (by have := HN2.out; omega)
      have HLT := Lib.hid hlt
      obtain ⟨EC, hEC⟩ : ∃ E, (#[.slice A1 tx.length c1, .int .i64 cnt, .int .i64 idx, .slice A2 path.length c2] : Array Value) = E := ⟨_, rfl⟩
      have HEC := Lib.hid hEC
      have HWA := Lib.hid (hw.alloc (.cells #[.slice A1 tx.length c1, .int .i64 cnt, .int .i64 idx, .slice A2 path.length c2] 67))
      have HBA := Lib.hid (show Below B wr (wr.alloc (.cells #[.slice A1 tx.length c1, .int .i64 cnt, .int .i64 idx, .slice A2 path.length c2] 67)) from (Below.refl _ _).alloc (by have := hw.1; have := hw.lt; omega) _)
      have HKA := Lib.hid (hk.below HW.out.lt (below_alloc (Below.refl _ _) (.cells #[.slice A1 tx.length c1, .int .i64 cnt, .int .i64 idx, .slice A2 path.length c2] 67)))
      have HNEW := Lib.hid (show (wr.alloc (.cells #[.slice A1 tx.length c1, .int .i64 cnt, .int .i64 idx, .slice A2 path.length c2] 67)).heap[wr.heap.size]? = some (.cells #[.slice A1 tx.length c1, .int .i64 cnt, .int .i64 idx, .slice A2 path.length c2] 67 (0, 0)) by simpa using heap_alloc_new wr _)
      have HB := Lib.hid hb
      have HGL := Lib.hid (show wr.heap.size ≠ g by have := hw.lt; omega)
      clear hw hb hk C1 C2 l1 l2 hfe h32 hlen hlen2 hx f1 f2 f3 f4 f5 f6 hpre H hkx hEC
      go_wp2_with fail
      refine (ctext_calls A1 c1 tx HWA.out (fun W' hb' _ => (HC12.out W' (HBA.out.trans hb')).1) HL1.out (by have := HLEN.out; have := HFE.out.1; omega)).mono ?_
      rintro e w2 ⟨rfl, hw2, hb2, hk2⟩
      have HW2 := Lib.hid hw2
      have HB2 := Lib.hid (HBA.out.trans hb2)
      have HK2 := Lib.hid (HKA.out.trans hk2)
      have HN2' := Lib.hid (hk2.blk HGL.out (HWA.out.row HNEW.out (by decide)) HNEW.out)
      have y1 := (blk_cell HN2'.out 1).trans (show _ = some (Value.int .i64 cnt) from rfl)
      clear hw2 hb2 hk2 HWA HBA HKA HNEW
      go_wp2_with fail
      with_reducible refine (cvar_int cnt HFE.out.2.1 HW2.out (by have := HLEN.out; have := HFE.out.1; have := varB_length tx.length; simp only [List.length_append]; omega)).mono ?_
      rintro e w3 ⟨rfl, hw3, hb3, hk3⟩
      have HW3 := Lib.hid hw3
      have HB3 := Lib.hid (HB2.out.trans hb3)
      have HK3 := Lib.hid (HK2.out.trans hk3)
      have HN3 := Lib.hid (hk3.blk HGL.out (HW2.out.row HN2'.out (by decide)) HN2'.out)
      have y2 := (blk_cell HN3.out 2).trans (show _ = some (Value.int .i64 idx) from rfl)
      clear hw3 hb3 hk3 HW2 HB2 HK2 HN2' y1
      go_wp2_with fail
      with_reducible refine (cvar_int idx HFE.out.2.2.2.1 HW3.out (by have := HLEN.out; have := HFE.out.1; have := varB_length tx.length; have := varB_length cnt.toNat; simp only [List.length_append]; omega)).mono ?_
      rintro e w4 ⟨rfl, hw4, hb4, hk4⟩
      have HW4 := Lib.hid hw4
      have HB4 := Lib.hid (HB3.out.trans hb4)
      have HK4 := Lib.hid (HK3.out.trans hk4)
      have HN4 := Lib.hid (hk4.blk HGL.out (HW3.out.row HN3.out (by decide)) HN3.out)
      have y3 := (blk_cell HN4.out 3).trans (show _ = some (Value.slice A2 path.length c2) from rfl)
      clear hw4 hb4 hk4 HW3 HB3 HK3 HN3 y2
      go_wp2_with fail
      with_reducible refine (hashes_calls A2 path.length c2 path HW4.out rfl (fun W hb => (HC12.out W (HB4.out.trans hb)).2) H32'.out HL2.out (by have := HLEN.out; have := HFE.out.1; have := HFE.out.2.2.2.2.2; have := varB_length tx.length; have := varB_length cnt.toNat; have := varB_length idx.toNat; simp only [List.length_append]; omega)).mono ?_
      rintro e w5 ⟨rfl, hw5, hb5, hk5⟩
      have HW5 := Lib.hid (show IsC w5 B g (bs ++ varB n ++ (xs.take (k + 1).toNat).flatMap entB) by rw [HTK.out, ← List.append_assoc, HPRE.out, HEB.out]; simpa [List.append_assoc] using hw5)
      have HB5 := Lib.hid (HB.out.trans (HB4.out.trans hb5))
      have HK5 := Lib.hid (HK4.out.trans hk5)
      clear hw5 hb5 hk5 HW4 HB4 HK4 HN4 y3 u1 u2 u1' u2'
      go_wp2
      go_roundw
      case rel => exact ⟨k + 1, by omega, by have := HLT.out; omega, by rw [wk], Lib.hid ⟨HW5.out, HB5.out, HK5.out⟩⟩
      case measure => simp [intOf]; have := HLT.out; omega
    · obtain ⟨hw, hb, hk⟩ := H.out
      have hkx : k.toNat = xs.length := by have := HN.out; omega
      rw [hkx, List.take_length, List.append_assoc] at hw
      have HW2 := Lib.hid hw
      have HB2 := Lib.hid hb
      have HK2 := Lib.hid hk
      clear hw hb hk hkx H
      go_wp2_with fail
      go_end0
      exact ⟨rfl, HW2.out, HB2.out, HK2.out⟩
/-- Any field. -/
theorem put_calls {w0 w : World} {B g bx : Nat} {bs : List Int} {a : MA} {m : MT} (f : Nat) (hf : f < 10) (hB0 : w0.heap.size = B) (hb0 : Below B w0 w) (h : IsC w B g bs) (hbx : bx < B) (hbox : MBox w bx a m) (hm : MC w0 a m) (hwf : MWf m) (hfit : fitM m f = true) (hl : bs.length ≤ 500000) :
    Calls Try.prog 22 #[.pointer (some ⟨bx, 0, none⟩), .pointer (some ⟨g, 0, none⟩), .int .i64 (f : Int)] w fun e w' => e = .returned (.tuple #[]) ∧ IsC w' B g (bs ++ putB m f) ∧ Below B w w' ∧ CKeep w w' g := by
  have hr : ∀ W : World, Below B w W → MC W a m := fun W hb => hm.below (by rw [hB0]; exact hb0.trans hb)
  rcases ten hf with rfl | rfl | rfl | rfl | rfl | rfl | rfl | rfl | rfl | rfl
  · exact put_loc h hbx hbox hr hwf hfit hl
  · exact put_stop h hbx hbox hr hwf hfit hl
  · exact put_heads h hbx hbox hr hwf hfit hl
  · exact put_of h hbx hbox hr hwf hfit hl
  · exact put_block h hbx hbox hr hwf hfit hl
  · exact put_data h hbx hbox hr hwf hfit hl
  · exact put_item h hbx hbox hr hwf hfit hl
  · exact put_ents hB0 hb0 h hbx hbox hm hwf hfit hl
  · exact put_nonce h hbx hbox hr hwf hfit hl
  · exact put_code h hbx hbox hr hwf hfit hl
end Go.Proofs.Ytfcmdhimlfoofaa.Hand


/- Just nine kinds have names, no two the same: the plain law. -/
namespace Go.Proofs.Ytfcmdhimlfoofaa.Hand
open Go Go.RowKit Go.Proofs.Ytfcmdhimlfoofaa.Plain Go.Proofs.YtfcmdhimlfoofaaW.PrintWords Go.Proofs.YtfcmdhimlfoofaaW.PrintLast Go.Proofs.YtfcmdhimlfoofaaW.PrintMore
set_option linter.unusedVariables false
set_option linter.unusedSimpArgs false
theorem name_some {k : Int} (h1 : 1 ≤ k) (h9 : k ≤ 9) : nameM k ≠ ⟨#[]⟩ := by
  rcases kinds h1 h9 with rfl | rfl | rfl | rfl | rfl | rfl | rfl | rfl | rfl <;> decide
theorem name_iff (k : Int) : nameM k = ⟨#[]⟩ ↔ k < 1 ∨ 9 < k := by
  constructor
  · intro h
    by_cases hk : k < 1 ∨ 9 < k
    · exact hk
    · exact absurd h (name_some (by omega) (by omega))
  · exact name_none
theorem name_inj {a b : Int} (h : nameM a = nameM b) (ha : nameM a ≠ ⟨#[]⟩) : a = b := by
  have h1 : ¬ (a < 1 ∨ 9 < a) := fun e => ha ((name_iff a).2 e)
  have h2 : ¬ (b < 1 ∨ 9 < b) := fun e => ha (h.trans ((name_iff b).2 e))
  rcases kinds (k := a) (by omega) (by omega) with rfl | rfl | rfl | rfl | rfl | rfl | rfl | rfl | rfl <;>
    rcases kinds (k := b) (by omega) (by omega) with rfl | rfl | rfl | rfl | rfl | rfl | rfl | rfl | rfl <;>
    first | rfl | exact absurd h (by decide)
end Go.Proofs.Ytfcmdhimlfoofaa.Hand


/- A message's Bytes: walked. -/
namespace Go.Proofs.Ytfcmdhimlfoofaa.Hand
open Go Go.RowKit Go.Proofs.Ytfcmdhimlfoofaa.Plain Go.Proofs.Ytfcmdhimlfoofaa.PAll Go.Proofs.YtfcmdhimlfoofaaW.PrintWords Go.Proofs.YtfcmdhimlfoofaaW.PrintLast Go.Proofs.YtfcmdhimlfoofaaW.PrintMore
set_option linter.unusedVariables false
set_option linter.unusedSimpArgs false
set_option maxRecDepth 100000
attribute [local go_sem ↓] Go.wp_at_zero Go.wp_at_succ
/-- The bytes when the fields before the k-th are put. -/
def accM (m : MT) (k : Nat) : List Int := digs 1 m.kind.toNat ++ ((List.range k).filter (usesM m.kind)).flatMap (putB m)
theorem acc_put {m : MT} {k : Nat} (h : usesM m.kind k = true) : accM m (k + 1) = accM m k ++ putB m k := by
  unfold accM
  rw [List.range_succ, List.filter_append, List.flatMap_append, List.append_assoc]
  simp [h]
theorem acc_skip {m : MT} {k : Nat} (h : usesM m.kind k = false) : accM m (k + 1) = accM m k := by
  unfold accM
  rw [List.range_succ, List.filter_append, List.flatMap_append]
  simp [h]
theorem acc_len {m : MT} (hw : MWf m) : ∀ (k : Nat), (∀ f, f < k → usesM m.kind f = true → fitM m f = true) → (accM m k).length ≤ 1 + ((List.range k).map maxB).sum
  | 0, _ => by simp [accM, digs_length]
  | k + 1, h => by
    have ih := acc_len hw k (fun f hf => h f (by omega))
    rw [List.range_succ, List.map_append, List.sum_append]
    cases hu : usesM m.kind k with
    | false =>
      rw [acc_skip hu]
      simp
      omega
    | true =>
      have := putB_len hw k (h k (by omega) hu)
      rw [acc_put hu, List.length_append]
      simp
      omega
theorem sum_max : ∀ k, k ≤ 10 → ((List.range k).map maxB).sum ≤ 185000 := by decide +kernel
theorem acc_all (m : MT) : accM m 10 = digs 1 m.kind.toNat ++ bodyM m := rfl
theorem bad_any {m : MT} {f : Nat} (hf : f < 10) (hu : usesM m.kind f = false) (hn : noneM m f = false) : (List.range 10).any (fun f => !usesM m.kind f && !noneM m f) = true :=
  List.any_eq_true.2 ⟨f, by simpa using hf, by simp [hu, hn]⟩
theorem bad_none {m : MT} (h : ∀ f, f < 10 → usesM m.kind f = false → noneM m f = true) : (List.range 10).any (fun f => !usesM m.kind f && !noneM m f) = false := by
  rw [List.any_eq_false]
  intro f hf
  have hf' : f < 10 := by simpa using hf
  cases hu : usesM m.kind f with
  | true => simp
  | false => simp [h f hf' hu]
theorem big_any {m : MT} {f : Nat} (hf : f < 10) (hu : usesM m.kind f = true) (hn : fitM m f = false) : (fieldsM m.kind).any (fun f => !fitM m f) = true :=
  List.any_eq_true.2 ⟨f, List.mem_filter.2 ⟨by simpa using hf, hu⟩, by simp [hn]⟩
theorem big_none {m : MT} (h : ∀ f, f < 10 → usesM m.kind f = true → fitM m f = true) : (fieldsM m.kind).any (fun f => !fitM m f) = false := by
  rw [List.any_eq_false]
  intro f hf
  obtain ⟨h1, h2⟩ := List.mem_filter.1 hf
  simp [h f (by simpa using h1) h2]
theorem meas10 {k : Nat} {x : Int} (h : k < 10) (e : x = ((k + 1 : Nat) : Int)) : (10 - intOf (Value.int .i64 x)).toNat < (10 - intOf (Value.int .i64 (k : Int))).toNat := by
  subst e
  show (10 - ((k + 1 : Nat) : Int)).toNat < (10 - (k : Int)).toNat
  omega
theorem name_list {k : Int} (h1 : 1 ≤ k) (h9 : k ≤ 9) : ((nameM k).toList == []) = false := by
  rcases kinds h1 h9 with rfl | rfl | rfl | rfl | rfl | rfl | rfl | rfl | rfl <;> decide +kernel
theorem below_succ {k : Nat} {P : Nat → Prop} (h : ∀ f, f < k → P f) (hk : P k) : ∀ f, f < k + 1 → P f := fun f hf => by
  by_cases e : f = k
  · exact e ▸ hk
  · exact h f (by omega)
set_option maxHeartbeats 4000000 in
theorem mbytes_calls (a : MA) (m : MT) (w : World) (hm : MC w a m) (hwf : MWf m) :
    Calls Try.prog 10 #[mV a m] w fun e w' => ∃ v, e = .returned (.tuple #[v, .int .i64 (bytesME m)]) ∧ Kd.R (Kd.int .u8) 5 w' w.heap.size (fun _ => True) v (bytesMV m) ∧ Below w.heap.size w w' := by
  have HM := Lib.hid hm
  have HWF := Lib.hid hwf
  obtain ⟨C, hC⟩ : ∃ C, (mcells a m).toArray = C := ⟨_, rfl⟩
  have hV1 : mV a m = .agg C := by rw [mV, hC]
  rw [hV1]
  have hC0 : C[0]? = some (.int .i64 m.kind) := by rw [← hC]; rfl
  obtain ⟨W1, hW1⟩ : ∃ W1, w.alloc (.cells C 33) = W1 := ⟨_, rfl⟩
  have HB1 : Hid (Below w.heap.size w W1) := Lib.hid (by rw [← hW1]; exact below_alloc (Below.refl _ _) _)
  have HBOX : Hid (MBox W1 w.heap.size a m) := Lib.hid ⟨by rw [← hW1, hC]; simpa using heap_alloc_new w _, hwf.stop.1, hwf.block.1⟩
  have HW1 := Lib.hid hW1
  obtain ⟨bx, hbx⟩ : ∃ k, w.heap.size = k := ⟨_, rfl⟩
  have HBX := Lib.hid hbx
  rw [hbx] at HBOX
  have HCELL := Lib.hid (show ∀ W, Below W1.heap.size W1 W → MBox W bx a m ∧ W.cell? ⟨bx, 0, none⟩ = some (.int .i64 m.kind) from fun W hb => by
    have h := HBOX.out.below hb
    exact ⟨h, h.cells.1⟩)
  have HMB := Lib.hid (show ∀ W, Below W1.heap.size W1 W → MC W a m from fun W hb => by
    exact hm.below (HB1.out.trans (Below.mono hb HB1.out.size)))
  obtain ⟨E, hE⟩ : ∃ E, bytesME m = E := ⟨_, rfl⟩
  obtain ⟨V, hV⟩ : ∃ V, bytesMV m = V := ⟨_, rfl⟩
  rw [hE, hV]
  have HE := Lib.hid hE
  have HVV : Hid (V = if E = 0 then digs 1 m.kind.toNat ++ bodyM m else []) := Lib.hid (by rw [← hV, ← hE]; rfl)
  clear hm hwf hC hV1 hW1 hE hV
  go_enter Try.func10, Try.ntmps10
  go_wp2_with fail
  rw [HW1.out]
  clear hC0
  refine (name_calls m.kind _).mono ?_
  rintro e w1 ⟨rfl, hb⟩
  have HB2 := Lib.hid hb
  clear hb
  by_cases hk : m.kind < 1 ∨ 9 < m.kind
  · have hnm := name_none hk
    rw [hnm]
    have hE : E = 3 := by rw [← HE.out]; unfold bytesME; rw [if_pos hk]
    have hV : V = [] := by rw [HVV.out, hE]; rfl
    have HBF := Lib.hid (HB1.out.trans (Below.mono HB2.out HB1.out.size))
    clear hnm hk HE HVV
    subst hE
    subst hV
    go_wp2_with fail
    go_ret2
    exact ⟨_, rfl, Kd.R_nil _ _ _ _ _, HBF.out⟩
  have hnm := name_list (k := m.kind) (by omega) (by omega)
  have HK1 := Lib.hid (show 1 ≤ m.kind by omega)
  have HK9 := Lib.hid (show m.kind ≤ 9 by omega)
  obtain ⟨nm, hnmm⟩ : ∃ s, nameM m.kind = s := ⟨_, rfl⟩
  rw [hnmm] at hnm ⊢
  clear hk hnmm
  go_wp2_with fail
  go_loopw [11] (fun i wr => ∃ k : Nat, k ≤ 10 ∧ i = .int .i64 (k : Int) ∧ Hid (Below W1.heap.size W1 wr ∧ ∀ f, f < k → usesM m.kind f = false → noneM m f = true)) (fun i _ => (10 - intOf i).toNat)
  case atStart => exact ⟨0, by omega, rfl, Lib.hid ⟨HB2.out, fun f hf => by omega⟩⟩
  case round =>
    obtain ⟨k, hk, rfl, H⟩ := hrel
    by_cases hlt : k < 10
    · have b1 : decide ((k : Int) < 10) = true := decide_eq_true (by omega)
      obtain ⟨hb, hall⟩ := H.out
      obtain ⟨hbox, k0⟩ := HCELL.out wr hb
      have HB := Lib.hid hb
      have HALL := Lib.hid hall
      have wk : wrap64 ((k : Int) + 1) = ((k + 1 : Nat) : Int) := (wrap64_id (by omega) (by omega)).trans (by omega)
      have HLT := Lib.hid hlt
      clear hb hall hbox H hk hlt
      go_wp2_with fail
      with_reducible refine (uses_calls m.kind k _ HK1.out HK9.out HLT.out).mono ?_
      rintro e w2 ⟨rfl, hb2⟩
      have HBX2 := Lib.hid (HB.out.trans (Below.mono hb2 HB.out.size))
      clear hb2 k0
      obtain ⟨u, hu⟩ : ∃ u, usesM m.kind k = u := ⟨_, rfl⟩
      have HU := Lib.hid hu
      rw [hu]
      clear hu
      cases u with
      | true =>
        go_wp2_with fail
        go_roundw
        case rel => exact ⟨k + 1, by have := HLT.out; omega, by rw [wk], Lib.hid ⟨HBX2.out, below_succ HALL.out (fun h => by rw [HU.out] at h; cases h)⟩⟩
        case measure => exact meas10 HLT.out wk
      | false =>
        have hbox := (HCELL.out w2 HBX2.out).1
        have HN := Lib.hid (none_calls k hbox HLT.out)
        clear hbox
        go_wp2_with fail
        refine HN.out.mono ?_
        rintro e w3 ⟨rfl, hb3⟩
        have HB3 := Lib.hid (HBX2.out.trans (Below.mono hb3 HBX2.out.size))
        clear hb3
        obtain ⟨u, hu⟩ : ∃ u, noneM m k = u := ⟨_, rfl⟩
        have HNN := Lib.hid hu
        rw [hu]
        clear hu
        cases u with
        | true =>
          go_wp2_with fail
          go_roundw
          case rel => exact ⟨k + 1, by have := HLT.out; omega, by rw [wk], Lib.hid ⟨HB3.out, below_succ HALL.out (fun _ => HNN.out)⟩⟩
          case measure => exact meas10 HLT.out wk
        | false =>
          have hE : E = 3 := by rw [← HE.out]; unfold bytesME; rw [if_neg (by have := HK1.out; have := HK9.out; omega), if_pos (bad_any HLT.out HU.out HNN.out)]
          have hV : V = [] := by rw [HVV.out, hE]; rfl
          have HBF := Lib.hid (HB1.out.trans (Below.mono HB3.out HB1.out.size))
          clear HE HVV
          subst hE
          subst hV
          go_wp2_with fail
          go_ret2
          exact ⟨_, rfl, Kd.R_nil _ _ _ _ _, HBF.out⟩
    · obtain ⟨wq, rfl⟩ : ∃ x, x = wr := ⟨wr, rfl⟩
      have hk10 : k = 10 := by omega
      subst hk10
      obtain ⟨hb, hall⟩ := H.out
      have HB := Lib.hid hb
      have HNB := Lib.hid (bad_none hall)
      clear hb hall H hlt hk
      go_wp2_with fail
      refine (cnew_calls _).mono ?_
      rintro e w2 ⟨rfl, hw2, hb2⟩
      have HW2 := Lib.hid hw2
      have HB2' := Lib.hid hb2
      have HBX2 := Lib.hid (HB.out.trans (Below.mono hb2 HB.out.size))
      obtain ⟨hbox, k0⟩ := HCELL.out w2 HBX2.out
      have HM0 := Lib.hid (HMB.out wq HB.out)
      have HBXB := Lib.hid (show bx < wq.heap.size from Nat.lt_of_lt_of_le (blk_lt HBOX.out.blk) HB.out.size)
      have HSZ := Lib.hid HB.out.size
      have HCELLB := Lib.hid (show ∀ W, Below wq.heap.size wq W → MBox W bx a m ∧ W.cell? ⟨bx, 0, none⟩ = some (.int .i64 m.kind) from fun W hb' => HCELL.out W (HB.out.trans (Below.mono hb' HB.out.size)))
      obtain ⟨q, hq⟩ : ∃ q, m.kind = q := ⟨_, rfl⟩
      have hu : q % 18446744073709551616 = q := by have := HK1.out; have := HK9.out; omega
      have hu' : IntKind.u64.wrap q = q := u64w_id (by have := HK1.out; omega) (by have := HK9.out; omega)
      rw [hq] at k0 ⊢
      have HQ := Lib.hid hq
      clear hw2 hb2 hbox hq
      go_wp2_with fail
      with_reducible refine (cnum_int q 1 (by have := HK1.out; rw [HQ.out] at this; omega) HW2.out (by simp)).mono ?_
      rintro e w3 ⟨rfl, hw3, hb3, _⟩
      have HW3 := Lib.hid (show IsC w3 wq.heap.size wq.heap.size (accM m 0) by rw [show accM m 0 = [] ++ digs (wid 1) q.toNat from by rw [← HQ.out]; rfl]; exact hw3)
      have HB3 := Lib.hid (HB2'.out.trans hb3)
      clear hw3 hb3 k0 hu hu'
      go_wp2
      go_loopw [31] (fun i wl => ∃ k : Nat, k ≤ 10 ∧ i = .int .i64 (k : Int) ∧ Hid (IsC wl wq.heap.size wq.heap.size (accM m k) ∧ Below wq.heap.size wq wl ∧ ∀ f, f < k → usesM m.kind f = true → fitM m f = true)) (fun i _ => (10 - intOf i).toNat)
      case atStart => exact ⟨0, by omega, rfl, Lib.hid ⟨HW3.out, HB3.out, fun f hf => by omega⟩⟩
      case round =>
        obtain ⟨k, hk, rfl, H⟩ := hrel
        by_cases hlt : k < 10
        · have b1 : decide ((k : Int) < 10) = true := decide_eq_true (by omega)
          obtain ⟨hw, hb, hall⟩ := H.out
          obtain ⟨hbox, k0⟩ := HCELLB.out wr hb
          rw [HQ.out] at k0
          have HW := Lib.hid hw
          have HBL := Lib.hid hb
          have HALL := Lib.hid hall
          have wk : wrap64 ((k : Int) + 1) = ((k + 1 : Nat) : Int) := (wrap64_id (by omega) (by omega)).trans (by omega)
          have HLT := Lib.hid hlt
          clear hw hb hall hbox H hk hlt
          go_wp2_with fail
          with_reducible refine (uses_calls q k _ (by have := HK1.out; rw [HQ.out] at this; exact this) (by have := HK9.out; rw [HQ.out] at this; exact this) HLT.out).mono ?_
          rintro e w4 ⟨rfl, hb4⟩
          have HB4 := Lib.hid (HBL.out.trans (Below.mono hb4 HBL.out.size))
          have HW4 := Lib.hid (HW.out.below hb4)
          clear hb4 k0
          obtain ⟨u, hu⟩ : ∃ u, usesM q k = u := ⟨_, rfl⟩
          have HU : Hid (usesM m.kind k = u) := Lib.hid (by rw [HQ.out]; exact hu)
          rw [hu]
          clear hu
          cases u with
          | false =>
            go_wp2_with fail
            go_roundw
            case rel => exact ⟨k + 1, by have := HLT.out; omega, by rw [wk], Lib.hid ⟨by rw [acc_skip HU.out]; exact HW4.out, HB4.out, below_succ HALL.out (fun h => by rw [HU.out] at h; cases h)⟩⟩
            case measure => exact meas10 HLT.out wk
          | true =>
            have hbox := (HCELLB.out w4 HB4.out).1
            have HF := Lib.hid (fits_calls k hbox (HMB.out w4 (HB.out.trans (Below.mono HB4.out HB.out.size))) HLT.out)
            clear hbox
            go_wp2_with fail
            refine HF.out.mono ?_
            rintro e w5 ⟨rfl, hb5⟩
            have HB5 := Lib.hid (HB4.out.trans (Below.mono hb5 HB4.out.size))
            have HW5 := Lib.hid (HW4.out.below hb5)
            clear hb5
            obtain ⟨u, hu⟩ : ∃ u, fitM m k = u := ⟨_, rfl⟩
            have HFF := Lib.hid hu
            rw [hu]
            clear hu
            cases u with
            | false =>
              have hE : E = 4 := by rw [← HE.out]; unfold bytesME; rw [if_neg (by have := HK1.out; have := HK9.out; omega), HNB.out, if_neg (by decide), if_pos (big_any HLT.out HU.out HFF.out)]
              have hV : V = [] := by rw [HVV.out, hE]; rfl
              have HBF := Lib.hid (HB1.out.trans (Below.mono (HB.out.trans (Below.mono HB5.out HB.out.size)) HB1.out.size))
              clear HE HVV
              subst hE
              subst hV
              go_wp2_with fail
              go_ret2
              exact ⟨_, rfl, Kd.R_nil _ _ _ _ _, HBF.out⟩
            | true =>
              have hlen := acc_len HWF.out k HALL.out
              have hmax := sum_max k (by have := HLT.out; omega)
              have HP := Lib.hid (put_calls k HLT.out rfl HB5.out HW5.out HBXB.out (HCELLB.out w5 HB5.out).1 HM0.out HWF.out HFF.out (by omega))
              clear hlen hmax
              go_wp2_with fail
              refine HP.out.mono ?_
              rintro e w6 ⟨rfl, hw6, hb6, _⟩
              have HW6 := Lib.hid hw6
              have HB6 := Lib.hid (HB5.out.trans hb6)
              clear hw6 hb6 HP
              go_wp2_with fail
              go_roundw
              case rel => exact ⟨k + 1, by have := HLT.out; omega, by rw [wk], Lib.hid ⟨by rw [acc_put HU.out]; exact HW6.out, HB6.out, below_succ HALL.out (fun _ => HFF.out)⟩⟩
              case measure => exact meas10 HLT.out wk
        · have hk10 : k = 10 := by omega
          subst hk10
          obtain ⟨hw, hb, hall⟩ := H.out
          have hE : E = 0 := by rw [← HE.out]; unfold bytesME; rw [if_neg (by have := HK1.out; have := HK9.out; omega), HNB.out, if_neg (by decide), big_none hall, if_neg (by decide)]
          have hV : V = accM m 10 := by rw [HVV.out, if_pos hE]; rfl
          have hlen := acc_len HWF.out 10 hall
          have hmax := sum_max 10 (by omega)
          have HBY := Lib.hid (cbytes_calls hw (by omega))
          have HBL := Lib.hid hb
          clear hw hb hall hlen hmax H hlt hk HE HVV
          subst hE
          subst hV
          go_wp2_with fail
          refine HBY.out.mono ?_
          rintro e w6 ⟨v, rfl, hv6, hb6⟩
          have HV6 := Lib.hid hv6
          have HBW := Lib.hid (HB1.out.trans (Below.mono (HB.out.trans (Below.mono HBL.out HB.out.size)) HB1.out.size))
          have HB6 := Lib.hid (HBW.out.trans (Below.mono hb6 HBW.out.size))
          clear hv6 hb6 HBY
          go_wp2_with fail
          go_ret2
          exact ⟨v, rfl, Kd.R_lower HV6.out HBW.out.size, HB6.out⟩
end Go.Proofs.Ytfcmdhimlfoofaa.Hand


/- The fields of a kind, as the document has them: walked (mastheadref16.Uses). -/
namespace Go.Proofs.Ytfcmdhimlfoofaa.Hand
open Go Go.RowKit Go.Proofs.Ytfcmdhimlfoofaa.Plain Go.Proofs.Ytfcmdhimlfoofaa.PAll Go.Proofs.YtfcmdhimlfoofaaW.PrintWords Go.Proofs.YtfcmdhimlfoofaaW.PrintLast Go.Proofs.YtfcmdhimlfoofaaW.PrintMore
set_option linter.unusedVariables false
set_option linter.unusedSimpArgs false
set_option maxRecDepth 100000
attribute [local go_sem ↓] Go.wp_at_zero Go.wp_at_succ
def rusesM (k : Int) : ByteArray := if k = 1 then ⟨#[108, 115, 110]⟩ else if k = 2 then ⟨#[104, 110]⟩ else if k = 3 then ⟨#[98]⟩ else if k = 4 then ⟨#[98, 100]⟩ else if k = 5 then ⟨#[98, 105]⟩ else if k = 6 then ⟨#[98, 105, 101]⟩ else if k = 7 then ⟨#[110]⟩ else if k = 8 then ⟨#[110]⟩ else if k = 9 then ⟨#[111, 98, 105, 110, 99]⟩ else ⟨#[]⟩
theorem ruses_none {k : Int} (h : k < 1 ∨ 9 < k) : rusesM k = ⟨#[]⟩ := by
  unfold rusesM
  repeat rw [if_neg (by omega)]
theorem built_ruses : Try.prog.built 57 [(0, .string ⟨#[]⟩), (1, .string ⟨#[108, 115, 110]⟩), (2, .string ⟨#[104, 110]⟩), (3, .string ⟨#[98]⟩), (4, .string ⟨#[98, 100]⟩), (5, .string ⟨#[98, 105]⟩), (6, .string ⟨#[98, 105, 101]⟩), (7, .string ⟨#[110]⟩), (8, .string ⟨#[110]⟩), (9, .string ⟨#[111, 98, 105, 110, 99]⟩)] = some #[.string ⟨#[]⟩, .string ⟨#[108, 115, 110]⟩, .string ⟨#[104, 110]⟩, .string ⟨#[98]⟩, .string ⟨#[98, 100]⟩, .string ⟨#[98, 105]⟩, .string ⟨#[98, 105, 101]⟩, .string ⟨#[110]⟩, .string ⟨#[110]⟩, .string ⟨#[111, 98, 105, 110, 99]⟩] := by kernel_rfl
theorem infoRuses : (Try.prog.info? 57).map (fun i => (i.zero, i.size)) = some (some (.agg #[.string ⟨#[]⟩, .string ⟨#[]⟩, .string ⟨#[]⟩, .string ⟨#[]⟩, .string ⟨#[]⟩, .string ⟨#[]⟩, .string ⟨#[]⟩, .string ⟨#[]⟩, .string ⟨#[]⟩, .string ⟨#[]⟩]), 10) := by kernel_rfl
set_option maxHeartbeats 4000000 in
theorem ruses_calls (k : Int) (w : World) : Calls Try.prog 9 #[.int .i64 k] w fun e w' => e = .returned (.string (rusesM k)) ∧ Below w.heap.size w w' := by
  have hz := (zero_of_info infoRuses).1
  have hi := (zero_of_info infoRuses).2
  have hk := heap_alloc_new w (.cells #[.string ⟨#[]⟩, .string ⟨#[108, 115, 110]⟩, .string ⟨#[104, 110]⟩, .string ⟨#[98]⟩, .string ⟨#[98, 100]⟩, .string ⟨#[98, 105]⟩, .string ⟨#[98, 105, 101]⟩, .string ⟨#[110]⟩, .string ⟨#[110]⟩, .string ⟨#[111, 98, 105, 110, 99]⟩] 57)
  have HB := Lib.hid (below_alloc (Below.refl w.heap.size w) (.cells #[.string ⟨#[]⟩, .string ⟨#[108, 115, 110]⟩, .string ⟨#[104, 110]⟩, .string ⟨#[98]⟩, .string ⟨#[98, 100]⟩, .string ⟨#[98, 105]⟩, .string ⟨#[98, 105, 101]⟩, .string ⟨#[110]⟩, .string ⟨#[110]⟩, .string ⟨#[111, 98, 105, 110, 99]⟩] 57))
  by_cases h1 : k < 1
  · rw [ruses_none (Or.inl h1)]
    go_enter Try.func9, Try.ntmps9
    go_wp2_with (first
      | ((with_reducible show wpList _ _ _ (Oper.mk _ (Op.build _ _) _ _ _ _ :: _) _ _); (go_loud (refine wpl_build rfl 57 _ rfl #[(0, .string ⟨#[]⟩), (1, .string ⟨#[108, 115, 110]⟩), (2, .string ⟨#[104, 110]⟩), (3, .string ⟨#[98]⟩), (4, .string ⟨#[98, 100]⟩), (5, .string ⟨#[98, 105]⟩), (6, .string ⟨#[98, 105, 101]⟩), (7, .string ⟨#[110]⟩), (8, .string ⟨#[110]⟩), (9, .string ⟨#[111, 98, 105, 110, 99]⟩)] (by simp [Act.eval]) #[.string ⟨#[]⟩, .string ⟨#[108, 115, 110]⟩, .string ⟨#[104, 110]⟩, .string ⟨#[98]⟩, .string ⟨#[98, 100]⟩, .string ⟨#[98, 105]⟩, .string ⟨#[98, 105, 101]⟩, .string ⟨#[110]⟩, .string ⟨#[110]⟩, .string ⟨#[111, 98, 105, 110, 99]⟩] built_ruses ?_)))
      | ((with_reducible show wpList _ _ _ (Oper.mk _ (Op.store _ (.tmp 3) _) _ _ _ _ :: _) _ _); (go_loud (refine wpl_store_new rfl 57 (.tmp 3) (.tmp 4) rfl #[.string ⟨#[]⟩, .string ⟨#[]⟩, .string ⟨#[]⟩, .string ⟨#[]⟩, .string ⟨#[]⟩, .string ⟨#[]⟩, .string ⟨#[]⟩, .string ⟨#[]⟩, .string ⟨#[]⟩, .string ⟨#[]⟩] #[.string ⟨#[]⟩, .string ⟨#[108, 115, 110]⟩, .string ⟨#[104, 110]⟩, .string ⟨#[98]⟩, .string ⟨#[98, 100]⟩, .string ⟨#[98, 105]⟩, .string ⟨#[98, 105, 101]⟩, .string ⟨#[110]⟩, .string ⟨#[110]⟩, .string ⟨#[111, 98, 105, 110, 99]⟩] rfl rfl hi rfl (by simp [Value.oneCell']) ?_))))
    go_ret
    exact ⟨rfl, HB.out⟩
  by_cases h9 : 9 < k
  · rw [ruses_none (Or.inr h9)]
    go_enter Try.func9, Try.ntmps9
    go_wp2_with (first
      | ((with_reducible show wpList _ _ _ (Oper.mk _ (Op.build _ _) _ _ _ _ :: _) _ _); (go_loud (refine wpl_build rfl 57 _ rfl #[(0, .string ⟨#[]⟩), (1, .string ⟨#[108, 115, 110]⟩), (2, .string ⟨#[104, 110]⟩), (3, .string ⟨#[98]⟩), (4, .string ⟨#[98, 100]⟩), (5, .string ⟨#[98, 105]⟩), (6, .string ⟨#[98, 105, 101]⟩), (7, .string ⟨#[110]⟩), (8, .string ⟨#[110]⟩), (9, .string ⟨#[111, 98, 105, 110, 99]⟩)] (by simp [Act.eval]) #[.string ⟨#[]⟩, .string ⟨#[108, 115, 110]⟩, .string ⟨#[104, 110]⟩, .string ⟨#[98]⟩, .string ⟨#[98, 100]⟩, .string ⟨#[98, 105]⟩, .string ⟨#[98, 105, 101]⟩, .string ⟨#[110]⟩, .string ⟨#[110]⟩, .string ⟨#[111, 98, 105, 110, 99]⟩] built_ruses ?_)))
      | ((with_reducible show wpList _ _ _ (Oper.mk _ (Op.store _ (.tmp 3) _) _ _ _ _ :: _) _ _); (go_loud (refine wpl_store_new rfl 57 (.tmp 3) (.tmp 4) rfl #[.string ⟨#[]⟩, .string ⟨#[]⟩, .string ⟨#[]⟩, .string ⟨#[]⟩, .string ⟨#[]⟩, .string ⟨#[]⟩, .string ⟨#[]⟩, .string ⟨#[]⟩, .string ⟨#[]⟩, .string ⟨#[]⟩] #[.string ⟨#[]⟩, .string ⟨#[108, 115, 110]⟩, .string ⟨#[104, 110]⟩, .string ⟨#[98]⟩, .string ⟨#[98, 100]⟩, .string ⟨#[98, 105]⟩, .string ⟨#[98, 105, 101]⟩, .string ⟨#[110]⟩, .string ⟨#[110]⟩, .string ⟨#[111, 98, 105, 110, 99]⟩] rfl rfl hi rfl (by simp [Value.oneCell']) ?_))))
    go_ret
    exact ⟨rfl, HB.out⟩
  rcases kinds (k := k) (by omega) (by omega) with rfl | rfl | rfl | rfl | rfl | rfl | rfl | rfl | rfl
  all_goals
    clear h1 h9
    have c1 := (blk_cell hk 1).trans (show _ = some (Value.string ⟨#[108, 115, 110]⟩) from rfl)
    have c2 := (blk_cell hk 2).trans (show _ = some (Value.string ⟨#[104, 110]⟩) from rfl)
    have c3 := (blk_cell hk 3).trans (show _ = some (Value.string ⟨#[98]⟩) from rfl)
    have c4 := (blk_cell hk 4).trans (show _ = some (Value.string ⟨#[98, 100]⟩) from rfl)
    have c5 := (blk_cell hk 5).trans (show _ = some (Value.string ⟨#[98, 105]⟩) from rfl)
    have c6 := (blk_cell hk 6).trans (show _ = some (Value.string ⟨#[98, 105, 101]⟩) from rfl)
    have c7 := (blk_cell hk 7).trans (show _ = some (Value.string ⟨#[110]⟩) from rfl)
    have c8 := (blk_cell hk 8).trans (show _ = some (Value.string ⟨#[110]⟩) from rfl)
    have c9 := (blk_cell hk 9).trans (show _ = some (Value.string ⟨#[111, 98, 105, 110, 99]⟩) from rfl)
    go_enter Try.func9, Try.ntmps9
    go_wp2_with (first
      | ((with_reducible show wpList _ _ _ (Oper.mk _ (Op.build _ _) _ _ _ _ :: _) _ _); (go_loud (refine wpl_build rfl 57 _ rfl #[(0, .string ⟨#[]⟩), (1, .string ⟨#[108, 115, 110]⟩), (2, .string ⟨#[104, 110]⟩), (3, .string ⟨#[98]⟩), (4, .string ⟨#[98, 100]⟩), (5, .string ⟨#[98, 105]⟩), (6, .string ⟨#[98, 105, 101]⟩), (7, .string ⟨#[110]⟩), (8, .string ⟨#[110]⟩), (9, .string ⟨#[111, 98, 105, 110, 99]⟩)] (by simp [Act.eval]) #[.string ⟨#[]⟩, .string ⟨#[108, 115, 110]⟩, .string ⟨#[104, 110]⟩, .string ⟨#[98]⟩, .string ⟨#[98, 100]⟩, .string ⟨#[98, 105]⟩, .string ⟨#[98, 105, 101]⟩, .string ⟨#[110]⟩, .string ⟨#[110]⟩, .string ⟨#[111, 98, 105, 110, 99]⟩] built_ruses ?_)))
      | ((with_reducible show wpList _ _ _ (Oper.mk _ (Op.store _ (.tmp 3) _) _ _ _ _ :: _) _ _); (go_loud (refine wpl_store_new rfl 57 (.tmp 3) (.tmp 4) rfl #[.string ⟨#[]⟩, .string ⟨#[]⟩, .string ⟨#[]⟩, .string ⟨#[]⟩, .string ⟨#[]⟩, .string ⟨#[]⟩, .string ⟨#[]⟩, .string ⟨#[]⟩, .string ⟨#[]⟩, .string ⟨#[]⟩] #[.string ⟨#[]⟩, .string ⟨#[108, 115, 110]⟩, .string ⟨#[104, 110]⟩, .string ⟨#[98]⟩, .string ⟨#[98, 100]⟩, .string ⟨#[98, 105]⟩, .string ⟨#[98, 105, 101]⟩, .string ⟨#[110]⟩, .string ⟨#[110]⟩, .string ⟨#[111, 98, 105, 110, 99]⟩] rfl rfl hi rfl (by simp [Value.oneCell']) ?_))))
    go_ret
    exact ⟨rfl, HB.out⟩
end Go.Proofs.Ytfcmdhimlfoofaa.Hand


/- The document's example, and that just nine kinds have names: walked (awake, MsgNames). -/
namespace Go.Proofs.Ytfcmdhimlfoofaa.Hand
open Go Go.RowKit Go.Proofs.Ytfcmdhimlfoofaa.Plain Go.Proofs.Ytfcmdhimlfoofaa.PAll Go.Proofs.YtfcmdhimlfoofaaW.PrintWords Go.Proofs.YtfcmdhimlfoofaaW.PrintLast Go.Proofs.YtfcmdhimlfoofaaW.PrintMore
set_option linter.unusedVariables false
set_option linter.unusedSimpArgs false
set_option maxRecDepth 100000
attribute [local go_sem ↓] Go.wp_at_zero Go.wp_at_succ
def nilMA : MA := ⟨none, 0, none, 0, none, 0, none, 0, none, 0⟩
theorem built_bare1 (k : Int) : Try.prog.built 33 [(0, .int .i64 k)] = some (mcells nilMA (bare k 0)).toArray := by kernel_rfl
theorem built_bare2 (k n : Int) : Try.prog.built 33 [(0, .int .i64 k), (8, .int .u64 n)] = some (mcells nilMA (bare k n)).toArray := by kernel_rfl
theorem z32m_bytes : z32m.length = 32 ∧ ∀ x ∈ z32m, 0 ≤ x ∧ x < 256 := by
  refine ⟨by simp [z32m], fun x hx => ?_⟩
  have := List.eq_of_mem_replicate hx
  omega
theorem bare_wf {k n : Int} (h0 : 0 ≤ n) (h1 : n < 18446744073709551616) : MWf (bare k n) :=
  ⟨by simp [bare], z32m_bytes, by simp [bare], z32m_bytes, by simp [bare], by simp [bare], by simp [bare], h0, h1⟩
theorem bare_MC (w : World) (k n : Int) : MC w nilMA (bare k n) :=
  ⟨Kd.C_nil _ _, Nat.le_refl _, Kd.C_nil _ _, Nat.le_refl _, Kd.C_nil _ _, Nat.le_refl _, Kd.C_nil _ _, Nat.le_refl _, Kd.C_nil _ _, Nat.le_refl _⟩
theorem awake16_e : bytesME (bare 7 5) = 0 := by decide +kernel
theorem awake16_v : (strOfNums (bytesMV (bare 7 5))).toList = ([7, 5, 0, 0, 0, 0, 0, 0, 0] : List UInt8) := by decide +kernel
set_option maxHeartbeats 1000000 in
theorem awake16_calls (w : World) : Calls Try.prog 11 #[] w fun e w' => e = .returned (.bool true) ∧ Below w.heap.size w w' := by
  have HT := Lib.hid (mbytes_calls nilMA (bare 7 5) w (bare_MC _ _ _) (bare_wf (by decide) (by decide)))
  rw [awake16_e] at HT
  have hb := built_bare2 7 5
  obtain ⟨C, hC⟩ : ∃ C, (mcells nilMA (bare 7 5)).toArray = C := ⟨_, rfl⟩
  rw [mV, hC] at HT
  rw [hC] at hb
  have HBU := Lib.hid hb
  clear hb hC
  go_enter Try.func11, Try.ntmps11
  go_wp2_with ((with_reducible show wpList _ _ _ (Oper.mk _ (Op.build _ _) _ _ _ _ :: _) _ _); (go_loud (refine wpl_build rfl 33 _ rfl #[(0, .int .i64 7), (8, .int .u64 5)] (by simp [Act.eval]) C HBU.out ?_)))
  refine HT.out.mono ?_
  rintro e w1 ⟨v, rfl, hv, hb⟩
  have hcv := own_string (P := Try.prog) Try.underlying23 Try.underlying5 Try.underlying9 (Kd.own_of_R hv)
  have ht := beq_iff_eq.mpr awake16_v
  generalize hs : strOfNums (bytesMV (bare 7 5)) = s at hcv ht
  have HB := Lib.hid hb
  clear hb hs hv HT
  go_wp2
  go_ret
  exact ⟨rfl, HB.out⟩
theorem ruses_list {k : Int} (h1 : 1 ≤ k) (h9 : k ≤ 9) : ((rusesM k).toList == []) = false := by
  rcases kinds h1 h9 with rfl | rfl | rfl | rfl | rfl | rfl | rfl | rfl | rfl <;> decide +kernel
theorem name_dec (a b : Int) (h1 : 1 ≤ a) (h9 : a ≤ 9) : ((nameM a).toList == (nameM b).toList) = (a == b) := by
  by_cases e : a = b
  · subst e
    simp
  · have : (a == b) = false := by simpa using e
    rw [this]
    by_cases hb : b < 1 ∨ 9 < b
    · rw [name_none hb, show (⟨#[]⟩ : ByteArray).toList = [] from by decide +kernel]
      exact name_list h1 h9
    · rcases kinds h1 h9 with rfl | rfl | rfl | rfl | rfl | rfl | rfl | rfl | rfl <;>
        rcases kinds (k := b) (by omega) (by omega) with rfl | rfl | rfl | rfl | rfl | rfl | rfl | rfl | rfl <;>
        first | exact absurd rfl e | decide +kernel
set_option maxHeartbeats 2000000 in
theorem names_calls (a b : Int) (w : World) : Calls Try.prog 3 #[.int .i64 a, .int .i64 b] w fun e w' => e = .returned (.bool true) ∧ Below w.heap.size w w' := by
  have HT := Lib.hid (fun W : World => mbytes_calls nilMA (bare a 0) W (bare_MC _ _ _) (bare_wf (by decide) (by decide)))
  have hb := built_bare1 a
  obtain ⟨C, hC⟩ : ∃ C, (mcells nilMA (bare a 0)).toArray = C := ⟨_, rfl⟩
  have hmv : mV nilMA (bare a 0) = .agg C := by rw [mV, hC]
  rw [hmv] at HT
  rw [hC] at hb
  have HBU := Lib.hid hb
  have hE := bare_bytes a
  obtain ⟨E, hEE⟩ : ∃ E, bytesME (bare a 0) = E := ⟨_, rfl⟩
  rw [hEE] at hE HT
  obtain ⟨V, hVV⟩ : ∃ V, bytesMV (bare a 0) = V := ⟨_, rfl⟩
  rw [hVV] at HT
  have HN1 := Lib.hid (fun W => name_calls a W)
  have HN2 := Lib.hid (fun W => name_calls b W)
  have HR1 := Lib.hid (fun W => ruses_calls a W)
  by_cases hk : a < 1 ∨ 9 < a
  · rw [if_pos hk] at hE
    have h1 := name_none hk
    have h2 := ruses_none hk
    rw [h1] at HN1
    rw [h2] at HR1
    subst hE
    obtain ⟨t, ht⟩ : ∃ t, nameM b = t := ⟨_, rfl⟩
    rw [ht] at HN2
    obtain ⟨y, hy⟩ : ∃ y, ([] == t.toList) = y := ⟨_, rfl⟩
    obtain ⟨z, hz⟩ : ∃ z, (a == b) = z := ⟨_, rfl⟩
    clear hb hC hmv hEE hVV hk h1 h2 ht
    go_enter Try.func3, Try.ntmps3
    go_wp2_with fail
    refine (HN1.out _).mono ?_
    rintro e w1 ⟨rfl, hb1⟩
    have HB1 := Lib.hid hb1
    clear hb1
    go_wp2_with fail
    refine (HN2.out _).mono ?_
    rintro e w2 ⟨rfl, hb2⟩
    have HB2 := Lib.hid (HB1.out.trans (Below.mono hb2 HB1.out.size))
    clear hb2
    go_wp2_with fail
    refine (HR1.out _).mono ?_
    rintro e w3 ⟨rfl, hb3⟩
    have HB3 := Lib.hid (HB2.out.trans (Below.mono hb3 HB2.out.size))
    clear hb3
    cases y <;> cases z
    all_goals
      go_wp2_with ((with_reducible show wpList _ _ _ (Oper.mk _ (Op.build _ _) _ _ _ _ :: _) _ _); (go_loud (refine wpl_build rfl 33 _ rfl #[(0, .int .i64 a)] (by simp [Act.eval]) C HBU.out ?_)))
      refine (HT.out _).mono ?_
      rintro e w4 ⟨v, rfl, _, hb4⟩
      have HB4 := Lib.hid (HB3.out.trans (Below.mono hb4 HB3.out.size))
      clear hb4
      go_wp2_with fail
      refine (awake16_calls _).mono ?_
      rintro e w5 ⟨rfl, hb5⟩
      have HB5 := Lib.hid (HB4.out.trans (Below.mono hb5 HB4.out.size))
      clear hb5
      go_wp2_with fail
      go_ret
      exact ⟨rfl, HB5.out⟩
  · rw [if_neg hk] at hE
    have h1 := name_list (k := a) (by omega) (by omega)
    have h2 := ruses_list (k := a) (by omega) (by omega)
    have h3 := name_dec a b (by omega) (by omega)
    obtain ⟨s, hs⟩ : ∃ s, nameM a = s := ⟨_, rfl⟩
    obtain ⟨t, ht⟩ : ∃ t, nameM b = t := ⟨_, rfl⟩
    obtain ⟨r, hr⟩ : ∃ r, rusesM a = r := ⟨_, rfl⟩
    rw [hs] at HN1 h1 h3
    rw [ht] at HN2 h3
    rw [hr] at HR1 h2
    subst hE
    obtain ⟨z, hz⟩ : ∃ z, (a == b) = z := ⟨_, rfl⟩
    rw [hz] at h3
    clear hb hC hmv hEE hVV hk hs ht hr
    go_enter Try.func3, Try.ntmps3
    go_wp2_with fail
    refine (HN1.out _).mono ?_
    rintro e w1 ⟨rfl, hb1⟩
    have HB1 := Lib.hid hb1
    clear hb1
    go_wp2_with fail
    refine (HN2.out _).mono ?_
    rintro e w2 ⟨rfl, hb2⟩
    have HB2 := Lib.hid (HB1.out.trans (Below.mono hb2 HB1.out.size))
    clear hb2
    go_wp2_with fail
    refine (HR1.out _).mono ?_
    rintro e w3 ⟨rfl, hb3⟩
    have HB3 := Lib.hid (HB2.out.trans (Below.mono hb3 HB2.out.size))
    clear hb3
    cases z
    all_goals
      go_wp2_with ((with_reducible show wpList _ _ _ (Oper.mk _ (Op.build _ _) _ _ _ _ :: _) _ _); (go_loud (refine wpl_build rfl 33 _ rfl #[(0, .int .i64 a)] (by simp [Act.eval]) C HBU.out ?_)))
      refine (HT.out _).mono ?_
      rintro e w4 ⟨v, rfl, _, hb4⟩
      have HB4 := Lib.hid (HB3.out.trans (Below.mono hb4 HB3.out.size))
      clear hb4
      go_wp2_with fail
      refine (awake16_calls _).mono ?_
      rintro e w5 ⟨rfl, hb5⟩
      have HB5 := Lib.hid (HB4.out.trans (Below.mono hb5 HB4.out.size))
      clear hb5
      go_wp2_with fail
      go_ret
      exact ⟨rfl, HB5.out⟩
end Go.Proofs.Ytfcmdhimlfoofaa.Hand


/- Just nine kinds have names, no two the same: whatever the two numbers are, the law's answer is true. -/
namespace Go.Proofs.Ytfcmdhimlfoofaa.msgNames
open Go.ChangeShapes Go.WideShapes Go.ChangeAt Go.RowKit
open Go.ChangeMaps (open_string shut_string)
open Go.Proofs.Ytfcmdhimlfoofaa.Opens Go.Proofs.YtfcmdhimlfoofaaW.PrintWords
set_option linter.unusedVariables false
theorem own : ownKnob Try.prog.godebug = none := by kernel_rfl
theorem laidOut : laidOutB Try.prog = true := by kernel_rfl
set_option maxRecDepth 100000 in
theorem lifted (os : Os) (started : os.Started) (H : Type) (enc : TypeId × Value → H) :
    ReturnsInHanded {} Try.checked os 3 .any (Rows.msgNamesSpec.pre6 enc Try.prog Try.f3 Rows.msgNamesRow.domain false) (Rows.msgNamesSpec.post enc Try.prog Try.f3 false true false false) := by
  refine returnsInHanded_of_change_sized (C := Try.checked) own started (by kernel_rfl) Try.func3
    (ChangeSpec.witness6 (enc := enc) (C := Try.checked) false ⟨#[], #[.int .i64 0, .int .i64 0], []⟩ 8 (by kernel_rfl) (by kernel_rfl) (by kernel_rfl) (by kernel_rfl)) ?_
  intro W base args ds gs before hval0 hW hcnd hsz0 _
  have hsz : (DataW.weightsEach Try.prog (Try.f3.params.toList ++ Rows.msgNamesSpec.plain.varTypes Try.prog) (ds ++ gs)).all (· ≤ reachBytes) = true := hsz0
  have hval : ∀ (j : Nat) t v, Try.f3.params[j]? = some t → args[j]? = some v → Value.okWide Try.prog W .any base t v := hval0
  have hW' := hW
  obtain ⟨p, q, hA0, hV, rfl, hfz, hnd⟩ := hW
  have hA : DataW.TrodAll enc Try.prog W 0 (fun _ => true) true Try.f3.params.toList args.toList ds p := hA0
  rw [Try.params3] at hA hval hsz
  obtain ⟨v0, vs0, d0, ds0, p0, q0, hargs, rfl, rfl, h0, r0⟩ := trodAll_cons hA
  obtain ⟨v1, vs1, d1, ds1, p1, q1, rfl, rfl, rfl, h1, r1⟩ := trodAll_cons r0
  obtain ⟨rfl, rfl, rfl⟩ := trodAll_nil r1
  obtain rfl : args = #[v0, v1] := by cases args; simp_all
  obtain ⟨rfl, rfl⟩ := trodVars_none hV
  obtain ⟨a_0, rfl, rfl, rfl, w_0⟩ := open_int Try.underlying3 (hval 0 3 v0 rfl rfl) h0
  obtain ⟨a_1, rfl, rfl, rfl, w_1⟩ := open_int Try.underlying3 (hval 1 3 v1 rfl rfl) h1
  clear hA0 hval0 hsz0 hsz
  refine (Hand.names_calls a_0 a_1 W).mono fun e W' ⟨he, bel⟩ => ?_
  subst he
  exact ⟨_, rfl, _, _, _, [], _, [], hW', trodAll_mk1 (shut_bool Try.underlying4 _), (trodAll_cons_mk (shut_int Try.underlying3 w_0) (trodAll_cons_mk (shut_int Try.underlying3 w_1) trodAll_mk0)), rfl, bel.frame _, fun h => by cases h⟩
theorem over : Rows.msgNamesRow.holds Try.pinned (OpenSpec.ofChange Rows.msgNamesSpec) :=
  OpenClaim.holds_of_wide 3 Try.f3 rfl rfl rfl rfl rfl rfl rfl ⟨rfl, rfl, rfl, rfl, rfl⟩ rfl rfl rfl rfl rfl (by kernel_rfl) Try.func3 (by kernel_rfl)
    (of_decide_eq_true (by kernel_rfl)) (by unfold Func.isWrapper; first | (rw [if_pos (by decide +kernel)]; kernel_rfl) | (rw [if_neg (by decide +kernel)]; exact ⟨rfl, rfl⟩))
    (fun os started H enc _ => lifted os started H enc)
theorem proved : Rows.MsgNamesSaid := over
#print axioms proved
end Go.Proofs.Ytfcmdhimlfoofaa.msgNames
namespace Go.Proofs.Ytfcmdhimlfoofaa
/-- The row, under a short name, for the claim. -/
theorem msgNames_holds : Rows.MsgNamesSaid := msgNames.proved
end Go.Proofs.Ytfcmdhimlfoofaa

