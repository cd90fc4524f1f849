/- Messages: what they are, and their bytes, no program in sight. -/
import Derived.Test.YtfcmdhimlfoofaaProg
import Derived.Below
import Derived.Deep.Draws
import Derived.Deep.AppendLies
import Derived.Maps.AppendAt
import Derived.OwnWalk
import Derived.Laws.BytesArg
import Derived.Laws.MakeOwn
import Derived.Laws.OwnMore
import Derived.Deep.OwnRows
import Derived.Tactics
import Derived.Lib.ConvBytes
import Derived.Laws.Slices
import Derived.WalkKit
import Derived.KernelRfl
import Derived.RowKit3
import Derived.Deep.LoopGhost
import Derived.Deep.QuietTactic
import Derived.BigQuiet
import Derived.WideLaws
import Derived.Deep.DeepCutAuto
import Derived.Deep.CutBlock
import Derived.Deep.RegionHeld3
import Derived.Laws.Rows
import Derived.Lib.AppendStr
import Derived.ArgAppend
import Derived.Laws.IdiomCopy
import Derived.OrdersHeld
import Derived.Laws.BitsLemmas
import Derived.RowKit
import Derived.StillTailTactics
import Derived.Test.YtfcmdhimlfoofaaWWords
import Derived.Test.YtfcmdhimlfoofaaWLast
import Derived.Test.YtfcmdhimlfoofaaWMore
import Derived.Lib.Hide
import Derived.Test.YtfcmdhimlfoofaaCount
import Derived.Test.YtfcmdhimlfoofaaWriter
namespace Go.Proofs.Ytfcmdhimlfoofaa.Hand
open Go Go.RowKit Go.Proofs.Ytfcmdhimlfoofaa.Plain Go.Proofs.YtfcmdhimlfoofaaW.PrintWords Go.Proofs.YtfcmdhimlfoofaaW.PrintLast Go.Proofs.YtfcmdhimlfoofaaW.PrintMore
set_option linter.unusedVariables false
set_option linter.unusedSimpArgs false
/-- A header in a message; an entry of a proof; a message. -/
structure HT where
  v : Int
  p : List Int
  r : List Int
  t : Int
  b : Int
  n : Int
structure ET where
  tx : List Int
  cnt : Int
  idx : Int
  path : List (List Int)
structure MT where
  kind : Int
  loc : List (List Int)
  stop : List Int
  heads : List HT
  block : List Int
  item : List Int
  data : List Int
  ents : List ET
  nonce : Int
  of_ : Int
  code : Int
def z32m : List Int := List.replicate 32 0
/-- A kind's fields, a bit each: locator 0, stop 1, heads 2, of 3, block 4, data 5, item 6, entries 7, nonce 8, code 9. -/
def rowM (k : Int) : Nat := if k = 1 then 259 else if k = 2 then 260 else if k = 3 then 16 else if k = 4 then 48 else if k = 5 then 80 else if k = 6 then 208 else if k = 7 then 256 else if k = 8 then 256 else if k = 9 then 856 else 0
def usesM (k : Int) (f : Nat) : Bool := rowM k / 2 ^ f % 2 == 1
def noneM (m : MT) (f : Nat) : Bool := match f with
  | 0 => m.loc.length == 0
  | 1 => m.stop == z32m
  | 2 => m.heads.length == 0
  | 3 => m.of_ == 0
  | 4 => m.block == z32m
  | 5 => m.data.length == 0
  | 6 => m.item.length == 0
  | 7 => m.ents.length == 0
  | 8 => m.nonce == 0
  | _ => m.code == 0
def fitE (x : ET) : Bool := decide (x.tx.length ≤ 700 ∧ 0 ≤ x.cnt ∧ x.cnt ≤ 65536 ∧ 0 ≤ x.idx ∧ x.idx ≤ 65536 ∧ x.path.length ≤ 16)
def fitM (m : MT) (f : Nat) : Bool := match f with
  | 0 => decide (m.loc.length ≤ 64)
  | 2 => decide (m.heads.length ≤ 2000)
  | 3 => decide (0 ≤ m.of_ ∧ m.of_ ≤ 255)
  | 5 => decide (m.data.length ≤ 2048)
  | 6 => decide (m.item.length ≤ 64)
  | 7 => decide (m.ents.length ≤ 16) && m.ents.all fitE
  | 9 => decide (0 ≤ m.code ∧ m.code ≤ 255)
  | _ => true
def hdB (x : HT) : List Int := digs 4 x.v.toNat ++ (x.p ++ x.r) ++ digs 4 x.t.toNat ++ digs 4 x.b.toNat ++ digs 4 x.n.toNat
def hashesB (l : List (List Int)) : List Int := varB l.length ++ l.flatten
def textB (l : List Int) : List Int := varB l.length ++ l
def entB (x : ET) : List Int := textB x.tx ++ varB x.cnt.toNat ++ varB x.idx.toNat ++ hashesB x.path
def putB (m : MT) (f : Nat) : List Int := match f with
  | 0 => hashesB m.loc
  | 1 => m.stop
  | 2 => varB m.heads.length ++ m.heads.flatMap hdB
  | 3 => digs 1 m.of_.toNat
  | 4 => m.block
  | 5 => textB m.data
  | 6 => textB m.item
  | 7 => varB m.ents.length ++ m.ents.flatMap entB
  | 8 => digs 8 m.nonce.toNat
  | _ => digs 1 m.code.toNat
/-- The fields of a kind, in the order in which they stand. -/
def fieldsM (k : Int) : List Nat := (List.range 10).filter (usesM k)
def bodyM (m : MT) : List Int := (fieldsM m.kind).flatMap (putB m)
def bytesME (m : MT) : Int := if m.kind < 1 ∨ 9 < m.kind then 3 else if (List.range 10).any (fun f => !usesM m.kind f && !noneM m f) then 3 else if (fieldsM m.kind).any (fun f => !fitM m f) then 4 else 0
def bytesMV (m : MT) : List Int := if bytesME m = 0 then digs 1 m.kind.toNat ++ bodyM m else []
/-- What a message's parts are. -/
structure HOk (h : HT) : Prop where
  p32 : h.p.length = 32
  r32 : h.r.length = 32
  v0 : 0 ≤ h.v
  v1 : h.v < 4294967296
  t0 : 0 ≤ h.t
  t1 : h.t < 4294967296
  b0 : 0 ≤ h.b
  b1 : h.b < 4294967296
  n0 : 0 ≤ h.n
  n1 : h.n < 4294967296
  pb : ∀ x ∈ h.p, 0 ≤ x ∧ x < 256
  rb : ∀ x ∈ h.r, 0 ≤ x ∧ x < 256
structure MWf (m : MT) : Prop where
  loc : ∀ h ∈ m.loc, h.length = 32 ∧ ∀ x ∈ h, 0 ≤ x ∧ x < 256
  stop : m.stop.length = 32 ∧ ∀ x ∈ m.stop, 0 ≤ x ∧ x < 256
  heads : ∀ h ∈ m.heads, HOk h
  block : m.block.length = 32 ∧ ∀ x ∈ m.block, 0 ≤ x ∧ x < 256
  item : ∀ x ∈ m.item, 0 ≤ x ∧ x < 256
  data : ∀ x ∈ m.data, 0 ≤ x ∧ x < 256
  ents : ∀ e ∈ m.ents, (∀ x ∈ e.tx, 0 ≤ x ∧ x < 256) ∧ ∀ h ∈ e.path, h.length = 32 ∧ ∀ x ∈ h, 0 ≤ x ∧ x < 256
  nonce : 0 ≤ m.nonce ∧ m.nonce < 18446744073709551616
/-- How many bytes a field has at most. -/
def maxB (f : Nat) : Nat := match f with
  | 0 => 2057
  | 1 => 32
  | 2 => 160009
  | 3 => 1
  | 4 => 32
  | 5 => 2057
  | 6 => 73
  | 7 => 19977
  | 8 => 8
  | _ => 1
theorem varB_le9 (n : Nat) : (varB n).length ≤ 9 := varB_length n
theorem hdB_len {h : HT} (hk : HOk h) : (hdB h).length = 80 := by
  simp [hdB, digs_length, hk.p32, hk.r32]
theorem hds_len : ∀ {l : List HT}, (∀ h ∈ l, HOk h) → (l.flatMap hdB).length = 80 * l.length
  | [], _ => rfl
  | h :: l, hh => by
    have h1 := hdB_len (hh h (by simp))
    have h2 := hds_len (l := l) (fun x hx => hh x (by simp [hx]))
    simp only [List.flatMap_cons, List.length_append, List.length_cons]
    omega
theorem flat32_len : ∀ (l : List (List Int)), (∀ h ∈ l, h.length = 32) → l.flatten.length = 32 * l.length
  | [], _ => rfl
  | h :: l, hh => by
    have h1 := hh h (by simp)
    have h2 := flat32_len l (fun x hx => hh x (by simp [hx]))
    simp only [List.flatten_cons, List.length_append, List.length_cons]
    omega
theorem entB_len {x : ET} (hf : fitE x = true) (hp : ∀ h ∈ x.path, h.length = 32) : (entB x).length ≤ 1248 := by
  obtain ⟨h1, h2, h3, h4, h5, h6⟩ := of_decide_eq_true hf
  have := varB_length x.tx.length
  have := varB_length x.cnt.toNat
  have := varB_length x.idx.toNat
  have := varB_length x.path.length
  have := flat32_len x.path hp
  simp only [entB, textB, hashesB, List.length_append]
  omega
theorem ents_len : ∀ {l : List ET}, (∀ x ∈ l, fitE x = true) → (∀ x ∈ l, ∀ h ∈ x.path, h.length = 32) → (l.flatMap entB).length ≤ 1248 * l.length
  | [], _, _ => by simp
  | x :: l, hf, hp => by
    have h1 := entB_len (hf x (by simp)) (hp x (by simp))
    have h2 := ents_len (l := l) (fun y hy => hf y (by simp [hy])) (fun y hy => hp y (by simp [hy]))
    simp only [List.flatMap_cons, List.length_append, List.length_cons]
    omega
theorem putB_len {m : MT} (hw : MWf m) (f : Nat) (hf : fitM m f = true) : (putB m f).length ≤ maxB f := by
  unfold fitM at hf
  unfold putB maxB
  have v0 := varB_length m.loc.length
  have v2 := varB_length m.heads.length
  have v5 := varB_length m.data.length
  have v6 := varB_length m.item.length
  have v7 := varB_length m.ents.length
  match f with
  | 0 =>
    have h1 := flat32_len m.loc (fun h hh => (hw.loc h hh).1)
    have h2 := of_decide_eq_true hf
    simp only [hashesB, List.length_append]
    omega
  | 1 => simp only [hw.stop.1]; omega
  | 2 =>
    have h1 := hds_len hw.heads
    have h2 := of_decide_eq_true hf
    simp only [List.length_append]
    omega
  | 3 => simp [digs_length]
  | 4 => simp only [hw.block.1]; omega
  | 5 =>
    have h2 := of_decide_eq_true hf
    simp only [textB, List.length_append]
    omega
  | 6 =>
    have h2 := of_decide_eq_true hf
    simp only [textB, List.length_append]
    omega
  | 7 =>
    simp only [Bool.and_eq_true, List.all_eq_true] at hf
    have h2 := of_decide_eq_true hf.1
    have h1 := ents_len hf.2 (fun x hx h hh => ((hw.ents x hx).2 h hh).1)
    simp only [List.length_append]
    omega
  | 8 => simp [digs_length]
  | n + 9 => simp [digs_length]
theorem fields_1 : fieldsM 1 = [0, 1, 8] := by decide
theorem fields_2 : fieldsM 2 = [2, 8] := by decide
theorem fields_3 : fieldsM 3 = [4] := by decide
theorem fields_4 : fieldsM 4 = [4, 5] := by decide
theorem fields_5 : fieldsM 5 = [4, 6] := by decide
theorem fields_6 : fieldsM 6 = [4, 6, 7] := by decide
theorem fields_7 : fieldsM 7 = [8] := by decide
theorem fields_8 : fieldsM 8 = [8] := by decide
theorem fields_9 : fieldsM 9 = [3, 4, 6, 8, 9] := by decide
theorem flat32 : ∀ (l : List (List Int)), (∀ h ∈ l, h.length = 32 ∧ ∀ x ∈ h, 0 ≤ x ∧ x < 256) → l.flatten.length = 32 * l.length ∧ ∀ x ∈ l.flatten, 0 ≤ x ∧ x < 256
  | [], _ => by simp
  | h :: l, hh => by
    obtain ⟨i1, i2⟩ := flat32 l (fun x hx => hh x (by simp [hx]))
    obtain ⟨h1, h2⟩ := hh h (by simp)
    rw [List.flatten_cons]
    refine ⟨by rw [List.length_append, List.length_cons, i1, h1]; omega, fun x hx => ?_⟩
    rcases List.mem_append.1 hx with hx | hx
    · exact h2 x hx
    · exact i2 x hx
/-- A message of no field but the nonce: it has bytes, just if its kind has a name. -/
def bare (k n : Int) : MT := ⟨k, [], z32m, [], z32m, [], [], [], n, 0, 0⟩
theorem bare_none (k : Int) (f : Nat) : noneM (bare k 0) f = true := by
  unfold noneM bare
  match f with
  | 0 => rfl
  | 1 => simp
  | 2 => rfl
  | 3 => rfl
  | 4 => simp
  | 5 => rfl
  | 6 => rfl
  | 7 => rfl
  | 8 => rfl
  | _ + 9 => rfl
theorem bare_fit (k n : Int) (f : Nat) : fitM (bare k n) f = true := by
  unfold fitM bare
  match f with
  | 0 => rfl
  | 1 => rfl
  | 2 => rfl
  | 3 => rfl
  | 4 => rfl
  | 5 => rfl
  | 6 => rfl
  | 7 => rfl
  | 8 => rfl
  | 9 => rfl
  | _ + 10 => rfl
theorem bare_bytes (k : Int) : bytesME (bare k 0) = if k < 1 ∨ 9 < k then 3 else 0 := by
  have hk : (bare k 0).kind = k := rfl
  unfold bytesME
  rw [hk]
  by_cases h : k < 1 ∨ 9 < k
  · rw [if_pos h, if_pos h]
  · rw [if_neg h, if_neg h, if_neg, if_neg]
    · simp [bare_fit]
    · simp [bare_none]
end Go.Proofs.Ytfcmdhimlfoofaa.Hand
