/- The link: what its methods do to the link in memory. -/
import Derived.Test.YtklillecmjooeaaProg
import Derived.Below
import Derived.Deep.Draws
import Derived.Deep.AppendLies
import Derived.Maps.AppendAt
import Derived.OwnWalk
import Derived.Laws.BytesArg
import Derived.Laws.MakeOwn
import Derived.Laws.OwnMore
import Derived.Deep.OwnRows
import Derived.Tactics
import Derived.Lib.ConvBytes
import Derived.Laws.Slices
import Derived.WalkKit
import Derived.KernelRfl
import Derived.RowKit3
import Derived.Deep.LoopGhost
import Derived.Deep.QuietTactic
import Derived.BigQuiet
import Derived.WideLaws
import Derived.Deep.DeepCutAuto
import Derived.Deep.CutBlock
import Derived.Deep.RegionHeld3
import Derived.Laws.Rows
import Derived.Lib.AppendStr
import Derived.ArgAppend
import Derived.Laws.IdiomCopy
import Derived.OrdersHeld
import Derived.Laws.BitsLemmas
import Derived.RowKit
import Derived.StillTailTactics
import Derived.Test.YtklillecmjooeaaWWords
import Derived.Test.YtklillecmjooeaaWLast
import Derived.Test.YtklillecmjooeaaWMore
import Derived.Lib.Hide
import Derived.Outline
import Derived.Deep.RegionLaw
import Derived.Deep.DrawnRows
import Derived.Test.YtklillecmjooeaaKeeps
import Derived.Test.YtklillecmjooeaaClone
import Derived.Test.YtklillecmjooeaaPlain
import Derived.Test.YtklillecmjooeaaMAlln0
namespace Go.Proofs.Ytklillecmjooeaa.Hand
open Go Go.RowKit Go.Proofs.Ytklillecmjooeaa.Plain Go.Proofs.Ytklillecmjooeaa.PAll Go.Proofs.YtklillecmjooeaaW.PrintWords Go.Proofs.YtklillecmjooeaaW.PrintLast Go.Proofs.YtklillecmjooeaaW.PrintMore
set_option linter.unusedVariables false
set_option linter.unusedSimpArgs false
attribute [local go_sem ↓] Go.wp_at_zero Go.wp_at_succ
theorem infoM : (Try.prog.info? 49).map (fun i => (i.zero, i.size, i.bytes)) = some (some (.agg #[.slice none 0 0, .int .i64 0]), 2, 32) := by kernel_rfl
/-- A link at block g (its memory from B on): its messages. -/
def IsL (w : World) (B g : Nat) (ms : List S49) : Prop := B ≤ g ∧ ∃ v, w.heap[g]? = some (.cells #[v] 46 (0, 0)) ∧ Kd.R k49 49 w B (fun _ => True) v ms
theorem IsL.cells {w : World} {B g : Nat} {ms : List S49} (h : IsL w B g ms) : g < w.heap.size ∧ ∃ A c, (w.cell? ⟨g, 0, none⟩ = some (.slice A ms.length c) ∧ w.frozen? ⟨g, 0, none⟩ = false) ∧ w.heap[g]? = some (.cells #[.slice A ms.length c] 46 (0, 0)) ∧ Kd.R k49 49 w B (fun _ => True) (.slice A ms.length c) ms := by
  obtain ⟨hB, v, hg, hR⟩ := h
  obtain ⟨A, c, rfl⟩ := Kd.R_slice hR
  refine ⟨by rw [Array.getElem?_eq_some_iff] at hg; exact hg.1, A, c, ⟨?_, ?_⟩, hg, hR⟩
  all_goals simp [World.cell?, World.frozen?, hg]
theorem IsL.field {w1 : World} {B g : Nat} {ms : List S49} {v v1 : Value} (hB : B ≤ g) (ho : Kd.R k49 49 w1 B (fun _ => True) v1 ms) (hg : w1.heap[g]? = some (.cells #[v] 46 (0, 0))) : IsL (w1.setCell ⟨g, 0, none⟩ v1) B g ms := by
  refine ⟨hB, v1, ?_, Kd.R_set ho hg (by decide) 0 v1⟩
  have hlt : g < w1.heap.size := by rw [Array.getElem?_eq_some_iff] at hg; exact hg.1
  simp [World.setCell, Array.getElem?_modify, hg]
theorem IsL.lt {w : World} {B g : Nat} {ms : List S49} (h : IsL w B g ms) : g < w.heap.size := h.cells.1
theorem IsL.below {w w' : World} {B g : Nat} {ms : List S49} (h : IsL w B g ms) (hb : Below w.heap.size w w') : IsL w' B g ms := by
  have hlt := h.cells.1
  obtain ⟨hB, v, hg, hR⟩ := h
  exact ⟨hB, v, (hb.block g hlt).trans hg, Kd.R_below hR hb⟩
theorem IsL.drew {w : World} {B g : Nat} {ms : List S49} (h : IsL w B g ms) : IsL w.drew B g ms := h.below (below_drew (Below.refl _ _))
theorem IsL.drewN {w : World} {B g : Nat} {ms : List S49} (h : IsL w B g ms) (n : Nat) : IsL (w.drewN n) B g ms := h.below (pw_below_drewN (Below.refl _ _) n)
theorem IsL.alloc {w : World} {B g : Nat} {ms : List S49} (h : IsL w B g ms) (o : Obj) : IsL (w.alloc o) B g ms := h.below (below_alloc (Below.refl _ _) o)
theorem lnew_calls (w : World) : Calls Try.prog 6 #[] w fun e w' => e = .returned (.pointer (some ⟨w.heap.size, 0, none⟩)) ∧ IsL w' w.heap.size w.heap.size [] ∧ Below w.heap.size w w' := by
  go_enter Try.func6, Try.ntmps6
  go_wp2
  go_ret
  exact ⟨rfl, ⟨Nat.le_refl _, _, by simpa using heap_alloc_new w _, Kd.R_nil _ _ _ _ _⟩, below_alloc (Below.refl _ _) _⟩
theorem llen_calls {w : World} {B g : Nat} {ms : List S49} (h : IsL w B g ms) : Calls Try.prog 12 #[.pointer (some ⟨g, 0, none⟩)] w fun e w' => e = .returned (.int .i64 ms.length) ∧ w = w' := by
  obtain ⟨hlt, A, c, ⟨h0, f0⟩, _, _⟩ := h.cells
  go_enter Try.func12, Try.ntmps12
  go_wp2
  go_ret
  exact ⟨rfl, rfl⟩
/-- The place that a pick says. -/
def atL (p : Int) (n : Nat) : Int := if n = 0 then -1 else p % (n : Int)
theorem atL_eq {p : Int} {n : Nat} (hn : 0 < n) : ((p.tmod n) + n) % (n : Int) = p % (n : Int) := by
  rw [Int.tmod_def]
  rw [show p - (n : Int) * p.tdiv n + n = p + (n : Int) * (1 - p.tdiv n) by rw [Int.mul_sub]; omega]
  exact Int.add_mul_emod_self_left p n (1 - p.tdiv n)
theorem lat_calls {w : World} {B g : Nat} {ms : List S49} (p : Int) (h : IsL w B g ms) (hl : ms.length ≤ 1000000) :
    Calls Try.prog 18 #[.pointer (some ⟨g, 0, none⟩), .int .i64 p] w fun e w' => e = .returned (.int .i64 (atL p ms.length)) ∧ w = w' := by
  obtain ⟨hlt, A, c, ⟨h0, f0⟩, _, _⟩ := h.cells
  clear h
  obtain ⟨n, hn⟩ : ∃ n, ms.length = n := ⟨_, rfl⟩
  rw [hn] at h0 hl ⊢
  clear hn
  by_cases c0 : n = 0
  · have hA : atL p n = -1 := if_pos c0
    subst c0
    rw [hA]
    go_enter Try.func18, Try.ntmps18
    go_wp2
    go_ret
    exact ⟨rfl, rfl⟩
  · have e0 : ((n : Int) = 0) = False := eq_false (by omega)
    have e1 : (n = 0) = False := eq_false c0
    have hA : atL p n = p % (n : Int) := if_neg c0
    have hE := atL_eq (p := p) (n := n) (by omega)
    have h1 : (0 : Int) < n := by omega
    have h2 := Int.lt_tmod_of_pos p h1
    have h3 := Int.tmod_lt_of_pos p h1
    have w1 : wrap64 (p.tmod n + n) = p.tmod n + n := wrap64_id (by omega) (by omega)
    rw [hA, ← hE]
    clear hA hE h1
    go_enter Try.func18, Try.ntmps18
    go_wp2
    go_ret
    exact ⟨rfl, rfl⟩
/-- The place lies among them. -/
theorem atL_in {p : Int} {n : Nat} (hn : 0 < n) : ∃ k : Nat, k < n ∧ atL p n = k := by
  have h1 : (0 : Int) < n := by omega
  have h2 := Int.emod_nonneg p (show (n : Int) ≠ 0 by omega)
  have h3 := Int.emod_lt_of_pos p h1
  exact ⟨(p % (n : Int)).toNat, by omega, by unfold atL; rw [if_neg (by omega)]; omega⟩
theorem IsL.grown {w0 w w1 : World} {B g c : Nat} {A : Option Addr} {ms ms' : List S49} {v1 : Value} (hB : B ≤ g) (hg : w.heap[g]? = some (.cells #[.slice A ms.length c] 46 (0, 0)))
    (hR : Kd.R k49 49 w B (fun _ => True) (.slice A ms.length c) ms) (ho : Kd.R k49 49 w1 B (fun _ => True) v1 ms') (hb : Below B w0 w1) (hg1 : w.grownBy w1 (Value.slice A ms.length c).ownBlock)
    (hat : v1.ownBlock = (Value.slice A ms.length c).ownBlock ∨ ∃ b, v1.ownBlock = some b ∧ w.heap.size ≤ b) :
    ∃ A1 n1 c1, v1 = .slice A1 n1 c1 ∧ w1.frozen? ⟨g, 0, none⟩ = false ∧ w1.cell? ⟨g, 0, none⟩ = some (.slice A ms.length c) ∧ IsL (w1.setCell ⟨g, 0, none⟩ (.slice A1 n1 c1)) B g ms' ∧ Below B w0 (w1.setCell ⟨g, 0, none⟩ (.slice A1 n1 c1)) ∧ CKeep w (w1.setCell ⟨g, 0, none⟩ (.slice A1 n1 c1)) g := by
  have hlt : g < w.heap.size := blk_lt hg
  have hne := Kd.R_ne hR hg (by decide)
  have hgb := (hg1.block g hlt hne).trans hg
  obtain ⟨A1, c1, rfl⟩ := Kd.R_slice ho
  have hr0 : rowAt w g = (Value.slice A ms.length c).ownBlock := rowAt_of (by simp [World.cell?, hg])
  have hIs := IsL.field hB ho hgb
  have hr1 : rowAt (w1.setCell ⟨g, 0, none⟩ (.slice A1 ms'.length c1)) g = (Value.slice A1 ms'.length c1).ownBlock := rowAt_of ((blk_cell (blk_set hgb 0 _) 0).trans rfl)
  refine ⟨A1, ms'.length, c1, rfl, by simp [World.frozen?, hgb], by simp [World.cell?, hgb], hIs, hb.setCell (p := ⟨g, 0, none⟩) hB _, by rw [World.size_setCell]; exact hg1.size, fun k hk hkg hkr => ?_, ?_⟩
  · rw [Below.heap_setCell w1 ⟨g, 0, none⟩ _ k hkg]
    exact hg1.block k hk (by rw [← hr0]; exact hkr)
  · rw [hr0, hr1]
    rcases hat with hat | ⟨b, hat, hle⟩
    · exact .inl hat
    · exact .inr fun k hk => by rw [hat] at hk; injection hk with hk; omega
end Go.Proofs.Ytklillecmjooeaa.Hand
