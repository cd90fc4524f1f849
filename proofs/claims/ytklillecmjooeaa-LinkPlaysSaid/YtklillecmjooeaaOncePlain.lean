/- How often each sign is on its way: plain law. -/
import Derived.Test.YtklillecmjooeaaProg
import Derived.Below
import Derived.Deep.Draws
import Derived.Deep.AppendLies
import Derived.Maps.AppendAt
import Derived.OwnWalk
import Derived.Laws.BytesArg
import Derived.Laws.MakeOwn
import Derived.Laws.OwnMore
import Derived.Deep.OwnRows
import Derived.Tactics
import Derived.Lib.ConvBytes
import Derived.Laws.Slices
import Derived.WalkKit
import Derived.KernelRfl
import Derived.RowKit3
import Derived.Deep.LoopGhost
import Derived.Deep.QuietTactic
import Derived.BigQuiet
import Derived.WideLaws
import Derived.Deep.DeepCutAuto
import Derived.Deep.CutBlock
import Derived.Deep.RegionHeld3
import Derived.Laws.Rows
import Derived.Lib.AppendStr
import Derived.ArgAppend
import Derived.Laws.IdiomCopy
import Derived.OrdersHeld
import Derived.Laws.BitsLemmas
import Derived.RowKit
import Derived.StillTailTactics
import Derived.Test.YtklillecmjooeaaWWords
import Derived.Test.YtklillecmjooeaaWLast
import Derived.Test.YtklillecmjooeaaWMore
import Derived.Lib.Hide
import Derived.Test.YtklillecmjooeaaMAlln0
import Derived.Test.YtklillecmjooeaaLink
namespace Go.Proofs.Ytklillecmjooeaa.Hand
open Go Go.RowKit Go.Proofs.Ytklillecmjooeaa.Plain Go.Proofs.Ytklillecmjooeaa.PAll Go.Proofs.YtklillecmjooeaaW.PrintWords Go.Proofs.YtklillecmjooeaaW.PrintLast Go.Proofs.YtklillecmjooeaaW.PrintMore
set_option linter.unusedVariables false
set_option linter.unusedSimpArgs false
/-- How many messages are just the sign x. -/
def cnt (ms : List S49) (x : Nat) : Int := (ms.countP (fun m => m.f0 == [(x : Int)]) : Nat)
/-- The table of all signs. -/
def tab (ms : List S49) : List Value := (List.range 256).map fun x => Value.int .i64 (cnt ms x)
/-- Each message is one sign. -/
def Signs (ms : List S49) : Prop := ∀ m ∈ ms, ∃ x : Nat, x < 256 ∧ m.f0 = [(x : Int)]
theorem tab_len (ms : List S49) : (tab ms).length = 256 := by simp [tab]
theorem tab_at (ms : List S49) {x : Nat} (h : x < 256) : (tab ms)[x]? = some (.int .i64 (cnt ms x)) := by
  simp [tab, h]
theorem cnt_le (ms : List S49) (x : Nat) : cnt ms x ≤ ms.length := by
  unfold cnt
  have := List.countP_le_length (p := fun m : S49 => m.f0 == [(x : Int)]) (l := ms)
  omega
theorem cnt_nonneg (ms : List S49) (x : Nat) : 0 ≤ cnt ms x := by unfold cnt; omega
theorem cnt_app (ms : List S49) (m : S49) (x : Nat) {y : Nat} (hm : m.f0 = [(y : Int)]) : cnt (ms ++ [m]) x = cnt ms x + if x = y then 1 else 0 := by
  unfold cnt
  rw [List.countP_append]
  simp only [List.countP_cons, List.countP_nil, hm]
  by_cases h : x = y
  · subst h; simp
  · rw [if_neg h]
    have : ([(y : Int)] == [(x : Int)]) = false := by simp; omega
    simp [this]
theorem cnt_erase (ms : List S49) (i : Nat) (h : i < ms.length) (x : Nat) {y : Nat} (hm : ms[i].f0 = [(y : Int)]) : cnt (ms.eraseIdx i) x = cnt ms x - if x = y then 1 else 0 := by
  have e : ms = ms.take i ++ ms[i] :: ms.drop (i + 1) := by simp
  have e2 : ms.eraseIdx i = ms.take i ++ ms.drop (i + 1) := List.eraseIdx_eq_take_drop_succ ms i
  have c1 : cnt ms x = (((ms.take i).countP (fun m => m.f0 == [(x : Int)]) + ((ms.drop (i + 1)).countP (fun m => m.f0 == [(x : Int)]) + if ms[i].f0 == [(x : Int)] then 1 else 0) : Nat) : Int) := by
    unfold cnt
    conv => lhs; rw [e]
    rw [List.countP_append, List.countP_cons]
  have c2 : cnt (ms.eraseIdx i) x = (((ms.take i).countP (fun m => m.f0 == [(x : Int)]) + (ms.drop (i + 1)).countP (fun m => m.f0 == [(x : Int)]) : Nat) : Int) := by
    unfold cnt
    rw [e2, List.countP_append]
  rw [c1, c2, hm]
  by_cases h : x = y
  · subst h; simp; omega
  · rw [if_neg h]
    have : ([(y : Int)] == [(x : Int)]) = false := by simp; omega
    simp [this]
theorem cnt_pos (ms : List S49) (i : Nat) (h : i < ms.length) {y : Nat} (hm : ms[i].f0 = [(y : Int)]) : 1 ≤ cnt ms y := by
  have := cnt_erase ms i h y hm
  have := cnt_nonneg (ms.eraseIdx i) y
  simp at *
  omega
theorem tab_set {ms ms' : List S49} {y : Nat} {v : Int} (hy : y < 256) (hv : cnt ms' y = v) (hne : ∀ x, x ≠ y → cnt ms' x = cnt ms x) : (tab ms).toArray.setIfInBounds y (.int .i64 v) = (tab ms').toArray := by
  apply Array.ext_getElem?
  intro i
  rw [Array.getElem?_setIfInBounds]
  simp only [List.size_toArray, tab_len, List.getElem?_toArray]
  by_cases h : y = i
  · subst h
    rw [if_pos rfl, if_pos hy, tab_at ms' hy, hv]
  · rw [if_neg h]
    by_cases hi : i < 256
    · rw [tab_at ms hi, tab_at ms' hi, hne i (fun e => h e.symm)]
    · rw [List.getElem?_eq_none (by rw [tab_len]; omega), List.getElem?_eq_none (by rw [tab_len]; omega)]
/-- The first k entries together. -/
def sumTo (ms : List S49) : Nat → Int
  | 0 => 0
  | k + 1 => sumTo ms k + cnt ms k
theorem sumTo_cons (m : S49) (ms : List S49) {y : Nat} (hm : m.f0 = [(y : Int)]) : ∀ k, sumTo (m :: ms) k = sumTo ms k + if y < k then 1 else 0
  | 0 => by simp [sumTo]
  | k + 1 => by
    simp only [sumTo]
    rw [sumTo_cons m ms hm k]
    have : cnt (m :: ms) k = cnt ms k + if k = y then 1 else 0 := by
      unfold cnt
      rw [List.countP_cons, hm]
      by_cases h : k = y
      · subst h; simp
      · rw [if_neg h]
        have : ([(y : Int)] == [(k : Int)]) = false := by simp; omega
        simp [this]
    rw [this]
    split <;> split <;> split <;> omega
theorem sumTo_all : ∀ (ms : List S49), Signs ms → sumTo ms 256 = ms.length
  | [], _ => by
    have : ∀ k, sumTo [] k = 0 := by
      intro k
      induction k with
      | zero => rfl
      | succ k ih => simp [sumTo, ih, cnt]
    rw [this]; rfl
  | m :: ms, h => by
    obtain ⟨y, hy, hm⟩ := h m (by simp)
    rw [sumTo_cons m ms hm, sumTo_all ms (fun m hm => h m (by simp [hm])), if_pos hy]
    simp
theorem sumTo_bound (ms : List S49) : ∀ k : Nat, 0 ≤ sumTo ms k ∧ sumTo ms k ≤ (k : Int) * ms.length
  | 0 => by simp [sumTo]
  | k + 1 => by
    have h1 := sumTo_bound ms k
    have h2 := cnt_le ms k
    have h3 := cnt_nonneg ms k
    simp only [sumTo]
    rw [show ((k + 1 : Nat) : Int) * ms.length = (k : Int) * ms.length + ms.length by rw [Int.natCast_add, Int.add_mul]; simp]
    omega
theorem Signs.app {ms : List S49} {m : S49} {y : Nat} (h : Signs ms) (hy : y < 256) (hm : m.f0 = [(y : Int)]) : Signs (ms ++ [m]) := by
  intro x hx
  rcases List.mem_append.mp hx with hx | hx
  · exact h x hx
  · simp only [List.mem_cons, List.not_mem_nil, or_false] at hx
    subst hx
    exact ⟨y, hy, hm⟩
theorem Signs.erase {ms : List S49} (h : Signs ms) (i : Nat) : Signs (ms.eraseIdx i) := fun m hm => h m (List.mem_of_mem_eraseIdx hm)
/-- What lies in a block of another type lies apart from the link. -/
theorem IsL.apart {w : World} {B g b t : Nat} {ms : List S49} {cs : Array Value} (h : IsL w B g ms) (hb : w.heap[b]? = some (.cells cs t (0, 0))) (h1 : t ≠ 46) (h2 : t ≠ 49) : b ≠ g ∧ some b ≠ rowAt w g := by
  obtain ⟨_, A, c, ⟨h0, _⟩, hg, hR⟩ := h.cells
  refine ⟨fun e => ?_, ?_⟩
  · subst e
    rw [hb] at hg
    injection hg with hg
    injection hg with _ hg _
    exact h1 hg
  · rw [rowAt_of h0]
    exact Kd.R_ne hR hb (fun e => h2 e.symm)
theorem IsL.set {w : World} {B g b t : Nat} {ms : List S49} {cs : Array Value} (h : IsL w B g ms) (hb : w.heap[b]? = some (.cells cs t (0, 0))) (h1 : t ≠ 46) (h2 : ∀ q, q ∈ 49 :: k49.E → q ≠ t) (o : Nat) (v : Value) : IsL (w.setCell ⟨b, o, none⟩ v) B g ms := by
  have hne := (h.apart hb h1 (fun e => h2 _ (by simp) e.symm)).1
  obtain ⟨hB, v0, hg, hR⟩ := h
  exact ⟨hB, v0, by rw [Below.heap_setCell w ⟨b, o, none⟩ v g (fun e => hne e.symm)]; exact hg, Kd.R_set hR hb h2 o v⟩
end Go.Proofs.Ytklillecmjooeaa.Hand
