/- Several texts in one. -/
import Derived.Test.YtlmcdkjobdcflaaDoorProg
import Derived.Below
import Derived.Deep.Draws
import Derived.Deep.AppendLies
import Derived.Maps.AppendAt
import Derived.OwnWalk
import Derived.Laws.BytesArg
import Derived.Laws.MakeOwn
import Derived.Laws.OwnMore
import Derived.Deep.OwnRows
import Derived.Tactics
import Derived.Lib.ConvBytes
import Derived.Laws.Slices
import Derived.WalkKit
import Derived.KernelRfl
import Derived.RowKit3
import Derived.Deep.LoopGhost
import Derived.Deep.QuietTactic
import Derived.BigQuiet
import Derived.WideLaws
import Derived.Deep.DeepCutAuto
import Derived.Deep.CutBlock
import Derived.Deep.RegionHeld3
import Derived.Laws.Rows
import Derived.Lib.AppendStr
import Derived.ArgAppend
import Derived.Laws.IdiomCopy
import Derived.OrdersHeld
import Derived.Laws.BitsLemmas
import Derived.RowKit
import Derived.StillTailTactics
import Derived.Test.YtlmcdkjobdcflaaDoorWWords
import Derived.Test.YtlmcdkjobdcflaaDoorWLast
import Derived.Test.YtlmcdkjobdcflaaDoorWMore
import Derived.Lib.Hide
import Derived.WideKeyRuns
import Derived.MapKept
import Derived.Test.YtlmcdkjobdcflaaDoorClFB
/- A map whose keys are hashes: what the operations on it do. -/
namespace Go.Proofs.YtlmcdkjobdcflaaDoor.Hand
open Go Go.RowKit Go.Proofs.YtlmcdkjobdcflaaDoor.Plain Go.Proofs.YtlmcdkjobdcflaaDoorW.PrintWords Go.Proofs.YtlmcdkjobdcflaaDoorW.PrintLast Go.Proofs.YtlmcdkjobdcflaaDoorW.PrintMore
set_option linter.unusedVariables false
set_option linter.unusedSimpArgs false
set_option maxRecDepth 100000
/-- A map's entries: the keys and what stands at them, in the order in which they came. -/
def mK (x : (List Int × Value) × Nat) : MapEntry := ⟨.agg (nums .u8 x.1.1).toArray, x.1.2, x.2⟩
def mE (L : List (List Int × Value)) : List MapEntry := L.zipIdx.map mK
def findL (h : List Int) : List (List Int × Value) → Nat → Option (Nat × Value)
  | [], _ => none
  | (k, v) :: L, i => if (h == k) = true then some (i, v) else findL h L (i + 1)
theorem run_find (h : List Int) (hl : h.length = 32) (w : World) : ∀ (L : List (List Int × Value)) (i s : Nat), (∀ p ∈ L, p.1.length = 32) → (Instr.findAsking 25 (.agg (nums .u8 h).toArray) ((L.zipIdx s).map mK) i).run Tryd.prog w = .ok (findL h L i) w
  | [], i, s, _ => by simp [Instr.findAsking, findL]
  | (k, v) :: L, i, s, hL => by
    have hk : k.length = 32 := hL (k, v) (by simp)
    have he := eqH h k hl hk w
    rw [List.zipIdx_cons, List.map_cons, Instr.findAsking, findL]
    have he2 : (Op.equal 25 (.agg (nums .u8 h).toArray) (mK ((k, v), s)).key).run Tryd.prog w = .ok (h == k) w := he
    simp only [Sem.run_bind, he2, Result.andThen_ok]
    cases hb : (h == k) with
    | true => simp [mK]
    | false =>
      simp only [Bool.false_eq_true, if_false]
      exact run_find h hl w L (i + 1) (s + 1) (fun p hp => hL p (by simp [hp]))
theorem run_check (h : List Int) (hl : h.length = 32) (em : Bool) (w : World) : (Instr.checkKey em 10000 25 (.agg (nums .u8 h).toArray)).run Tryd.prog w = .ok () w := by
  obtain ⟨x0, x1, x2, x3, x4, x5, x6, x7, x8, x9, x10, x11, x12, x13, x14, x15, x16, x17, x18, x19, x20, x21, x22, x23, x24, x25, x26, x27, x28, x29, x30, x31, rfl⟩ := list32 h hl
  kernel_rfl
theorem u90 : Tryd.prog.underlying 90 = some (.map 25 62) := by kernel_rfl
theorem zero62 (w : World) : (zeroValue 62).run Tryd.prog w = .ok (.slice none 0 0) w := by kernel_rfl
theorem run_findKey9 (h : List Int) (hl : h.length = 32) (w : World) (L : List (List Int × Value)) (hL : ∀ p ∈ L, p.1.length = 32) : (Instr.findKey 25 (.agg (nums .u8 h).toArray) (mE L).toArray.toList).run Tryd.prog w = .ok (findL h L 0) w := by
  rw [run_findKey_eq w (by rw [Tryd.underlying25])]
  exact run_find h hl w L 0 0 hL
/-- The look-up. -/
theorem run_lookup9 (b : Nat) (h : List Int) (hl : h.length = 32) (L : List (List Int × Value)) (clock : Nat) (w : World) (hb : w.heap[b]? = some (.map (mE L).toArray clock)) (hL : ∀ p ∈ L, p.1.length = 32) :
    (Instr.lookup 90 (.map (some b)) (.agg (nums .u8 h).toArray) false).run Tryd.prog w = .ok (match findL h L 0 with | some (_, v) => v | none => .slice none 0 0) w := by
  have h1 := run_findKey9 h hl w L hL
  have h2 := run_check h hl (mE L).toArray.isEmpty w
  unfold Instr.lookup
  simp only [Sem.run_bind, run_underlying u90, Result.andThen_ok, getObj, Sem.run, hb, Sem.run_pure, h2, h1]
  cases findL h L 0 <;> simp [zero62]
/-- The world with another object at a block. -/
def putW (w : World) (b : Nat) (o : Obj) : World := { w with heap := w.heap.setIfInBounds b o }
theorem putW_at {w : World} {b : Nat} {o o2 : Obj} (h : w.heap[b]? = some o2) : (putW w b o).heap[b]? = some o := by
  have := (Array.getElem?_eq_some_iff.1 h).1
  simp [putW, this]
theorem putW_other {w : World} {b k : Nat} {o : Obj} (h : k ≠ b) : (putW w b o).heap[k]? = w.heap[k]? := by
  simp [putW, Array.getElem?_setIfInBounds, Ne.symm h]
theorem mE_len (L : List (List Int × Value)) : (mE L).length = L.length := by simp [mE]
theorem mE_get {L : List (List Int × Value)} {i : Nat} (h : i < L.length) : (mE L)[i]? = some (mK (L[i], i)) := by
  simp [mE, h]
theorem mE_push (L : List (List Int × Value)) (h : List Int) (v : Value) : mE (L ++ [(h, v)]) = mE L ++ [⟨.agg (nums .u8 h).toArray, v, L.length⟩] := by
  simp [mE, mK, List.zipIdx_append]
theorem mE_set {L : List (List Int × Value)} {i : Nat} (h : i < L.length) (k : List Int) (v : Value) : mE (L.set i (k, v)) = (mE L).set i ⟨.agg (nums .u8 k).toArray, v, i⟩ := by
  apply List.ext_getElem?
  intro j
  rw [List.getElem?_set]
  by_cases hj : j < L.length
  · rw [mE_get (by rw [List.length_set]; exact hj), mE_get hj, mE_len]
    by_cases e : i = j
    · subst e
      simp [mK, h]
    · simp [e, List.getElem_set_ne]
  · have h1 : (mE (L.set i (k, v))).length = L.length := by rw [mE_len, List.length_set]
    rw [List.getElem?_eq_none (by rw [h1]; omega), if_neg (by omega), List.getElem?_eq_none (by rw [mE_len]; omega)]
theorem findL_spec (h : List Int) : ∀ (L : List (List Int × Value)) (s : Nat) (i : Nat) (v : Value), findL h L s = some (i, v) → s ≤ i ∧ ∃ hi : i - s < L.length, L[i - s] = (h, v)
  | [], s, i, v, e => by cases e
  | (k, u) :: L, s, i, v, e => by
    rw [findL] at e
    cases hb : (h == k) with
    | true =>
      rw [hb] at e
      simp only [if_true, Option.some.injEq, Prod.mk.injEq] at e
      obtain ⟨rfl, rfl⟩ := e
      refine ⟨Nat.le_refl _, by simp, ?_⟩
      simp [eq_of_beq hb]
    | false =>
      rw [hb] at e
      simp only [Bool.false_eq_true, if_false] at e
      obtain ⟨h1, h2, h3⟩ := findL_spec h L (s + 1) i v e
      have e9 : i - s = (i - (s + 1)) + 1 := by omega
      refine ⟨by omega, by rw [List.length_cons]; omega, ?_⟩
      have : ((k, u) :: L)[(i - (s + 1)) + 1]'(by rw [List.length_cons]; omega) = (h, v) := by rw [List.getElem_cons_succ]; exact h3
      simpa only [e9] using this
theorem sameBits_nums : ∀ (n : Nat) (l : List Int), (((nums .u8 l).zip (nums .u8 l)).all fun x => Instr.sameBits n x.1 x.2) = true
  | n, [] => rfl
  | n, x :: l => by
    have ih := sameBits_nums n l
    have h1 : Instr.sameBits n (.int .u8 x) (.int .u8 x) = true := by cases n <;> simp [Instr.sameBits]
    have e : nums .u8 (x :: l) = .int .u8 x :: nums .u8 l := rfl
    rw [e, List.zip_cons_cons, List.all_cons, ih]
    simp [h1]
theorem run_stays (h : List Int) (w : World) : (Instr.keyThatStays (.agg (nums .u8 h).toArray) (.agg (nums .u8 h).toArray)).run Tryd.prog w = .ok (.agg (nums .u8 h).toArray) w := by
  have hs : Instr.sameBits 10000 (.agg (nums .u8 h).toArray) (.agg (nums .u8 h).toArray) = true := by
    show (_ && _) = true
    have := sameBits_nums 9999 h
    simp only [beq_self_eq_true, Bool.true_and]
    exact this
  unfold Instr.keyThatStays
  rw [if_pos hs]
  rfl
/-- The entry of a key that was not there: made. -/
theorem run_entry_new (b : Nat) (h : List Int) (hl : h.length = 32) (L : List (List Int × Value)) (w : World) (hb : w.heap[b]? = some (.map (mE L).toArray L.length)) (hL : ∀ p ∈ L, p.1.length = 32) (hn : findL h L 0 = none) :
    (Instr.mapEntry 90 (.map (some b)) (.agg (nums .u8 h).toArray)).run Tryd.prog w = .ok (.tuple #[.slice none 0 0, .int .i64 (L.length : Int)]) (putW w b (.map (mE (L ++ [(h, .slice none 0 0)])).toArray (L.length + 1))) := by
  have h1 := run_findKey9 h hl w L hL
  have h2 := run_check h hl false w
  rw [hn] at h1
  unfold Instr.mapEntry
  simp only [Sem.run_bind, run_underlying u90, Result.andThen_ok, getObj, setObj, Sem.run, hb, Sem.run_pure, h2, h1, zero62, goInt]
  rw [mE_push]
  simp [putW]
/-- The entry of a key that was there. -/
theorem run_entry_old (b : Nat) (h : List Int) (hl : h.length = 32) (L : List (List Int × Value)) (i : Nat) (v : Value) (w : World) (hb : w.heap[b]? = some (.map (mE L).toArray L.length)) (hL : ∀ p ∈ L, p.1.length = 32) (hn : findL h L 0 = some (i, v)) :
    (Instr.mapEntry 90 (.map (some b)) (.agg (nums .u8 h).toArray)).run Tryd.prog w = .ok (.tuple #[v, .int .i64 (i : Int)]) (putW w b (.map (mE L).toArray L.length)) := by
  have h1 := run_findKey9 h hl w L hL
  have h2 := run_check h hl false w
  obtain ⟨_, hi, hv⟩ := findL_spec h L 0 i v hn
  have hi : i < L.length := hi
  have hv : L[i] = (h, v) := hv
  rw [hn] at h1
  have hg : (mE L).toArray[i]? = some ⟨.agg (nums .u8 h).toArray, v, i⟩ := by
    rw [List.getElem?_toArray, mE_get hi, hv]
    rfl
  have hmod : (mE L).toArray.modify i (fun e => { e with key := .agg (nums .u8 h).toArray }) = (mE L).toArray := by
    apply Array.ext_getElem?
    intro j
    rw [Array.getElem?_modify]
    by_cases e : i = j
    · subst e
      rw [if_pos rfl, hg]
      rfl
    · rw [if_neg e]
  unfold Instr.mapEntry
  simp only [Sem.run_bind, run_underlying u90, Result.andThen_ok, getObj, setObj, Sem.run, hb, Sem.run_pure, h2, h1, hg, Option.map_some, Option.getD_some, run_stays, hmod, goInt]
  rfl
/-- The store into an entry. -/
theorem run_estore (b i : Nat) (L : List (List Int × Value)) (h : List Int) (u v : Value) (w : World) (hb : w.heap[b]? = some (.map (mE L).toArray L.length)) (hi : L[i]? = some (h, u)) :
    (Instr.entryStore 90 (.map (some b)) (.int .i64 (i : Int)) v).run Tryd.prog w = .ok () (putW w b (.map (mE (L.set i (h, v))).toArray L.length)) := by
  have hlt := (List.getElem?_eq_some_iff.1 hi).1
  have hfi : (mE L).toArray.findIdx? (fun e => (e.born : Int) == (i : Int)) = some i := by
    rw [Array.findIdx?_eq_some_iff_getElem]
    refine ⟨by simpa [mE_len] using hlt, ?_, ?_⟩
    · have := mE_get hlt
      simp only [List.getElem_toArray]
      rw [List.getElem?_eq_some_iff] at this
      obtain ⟨_, h9⟩ := this
      rw [h9]
      simp [mK]
    · intro j hj
      have hj2 : j < L.length := by omega
      have := mE_get hj2
      rw [List.getElem?_eq_some_iff] at this
      obtain ⟨_, h9⟩ := this
      simp only [List.getElem_toArray, h9, mK]
      simp
      omega
  have hset : (mE L).toArray.modify i (fun e => { e with val := v }) = (mE (L.set i (h, v))).toArray := by
    rw [mE_set hlt]
    apply Array.ext_getElem?
    intro j
    rw [Array.getElem?_modify, List.getElem?_toArray, List.getElem?_toArray, List.getElem?_set]
    by_cases e : i = j
    · subst e
      have hm : (mE L)[i]? = some ⟨.agg (nums .u8 h).toArray, u, i⟩ := by
        rw [mE_get hlt]
        rw [List.getElem?_eq_some_iff] at hi
        obtain ⟨_, h9⟩ := hi
        rw [h9]
        rfl
      rw [if_pos rfl, if_pos rfl, hm, if_pos (by rw [mE_len]; exact hlt)]
      rfl
    · rw [if_neg e, if_neg e]
  have ha : (asInt (.int .i64 (i : Int))).run Tryd.prog w = .ok (i : Int) w := by simp [asInt, asIntOf, Result.andThen]
  unfold Instr.entryStore
  simp only [Sem.run_bind, Result.andThen_ok, getObj, setObj, Sem.run, hb, Sem.run_pure, ha, hfi, hset]
  rfl
end Go.Proofs.YtlmcdkjobdcflaaDoor.Hand

