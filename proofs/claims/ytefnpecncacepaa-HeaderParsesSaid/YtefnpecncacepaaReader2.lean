/- The codec's reader: Var, Text, Hash and End. -/
import Derived.Test.YtefnpecncacepaaProg
import Derived.Below
import Derived.Deep.Draws
import Derived.Deep.AppendLies
import Derived.Maps.AppendAt
import Derived.OwnWalk
import Derived.Laws.BytesArg
import Derived.Laws.MakeOwn
import Derived.Laws.OwnMore
import Derived.Deep.OwnRows
import Derived.Tactics
import Derived.Lib.ConvBytes
import Derived.Laws.Slices
import Derived.WalkKit
import Derived.KernelRfl
import Derived.RowKit3
import Derived.Deep.LoopGhost
import Derived.Deep.QuietTactic
import Derived.BigQuiet
import Derived.WideLaws
import Derived.Deep.DeepCutAuto
import Derived.Deep.CutBlock
import Derived.Deep.RegionHeld3
import Derived.Laws.Rows
import Derived.Lib.AppendStr
import Derived.ArgAppend
import Derived.Laws.IdiomCopy
import Derived.OrdersHeld
import Derived.Laws.BitsLemmas
import Derived.RowKit
import Derived.StillTailTactics
import Derived.Test.YtefnpecncacepaaWWords
import Derived.Test.YtefnpecncacepaaWLast
import Derived.Test.YtefnpecncacepaaWMore
import Derived.Lib.Hide
import Derived.Outline
import Derived.Deep.RegionLaw
import Derived.Deep.RegionHeld3
import Derived.BigRegion
import Derived.Test.YtefnpecncacepaaTake
namespace Go.Proofs.Ytefnpecncacepaa.Hand
open Go Go.RowKit Go.Proofs.Ytefnpecncacepaa.Plain Go.Proofs.Ytefnpecncacepaa.PAll Go.Proofs.YtefnpecncacepaaW.PrintWords Go.Proofs.YtefnpecncacepaaW.PrintLast Go.Proofs.YtefnpecncacepaaW.PrintMore
attribute [local go_sem] max2_int min2_int max_two min_two max_three min_three max_four min_four
set_option linter.unusedVariables false
set_option linter.unusedSimpArgs false
set_option maxHeartbeats 1000000 in
theorem cend_calls {w : World} {B g : Nat} {bs : List Int} {p : Nat} {x : Int} (h : IsR w B g bs (p : Int) x) (hp : p ≤ bs.length) (hl : bs.length ≤ 100000000) :
    Calls Try.prog 12 #[.pointer (some ⟨g, 0, none⟩)] w fun e w' => e = .returned (.int .i64 (endR bs p x)) ∧ IsR w' B g bs (p : Int) (endR bs p x) ∧ RKeep w w' B g := by
  obtain ⟨A, c, h0, h1, h2, f1, f2, _, _⟩ := h.cells
  have HW := Lib.hid h
  by_cases c1 : x = 0
  · subst c1
    have HL := Lib.hid (cleft_calls h (by omega) (by omega) hl)
    obtain ⟨d, hd⟩ : ∃ d : Int, (bs.length : Int) - (p : Int) = d := ⟨_, rfl⟩
    rw [hd] at HL
    by_cases c2 : 0 < d
    · have hE : endR bs p 0 = 3 := by unfold endR; rw [if_pos ⟨rfl, by omega⟩]
      rw [hE]
      have f3 : decide (0 < d) = true := decide_eq_true c2
      clear hE c2 hd hp hl h h1 f1
      go_enter Try.func12, Try.ntmps12
      go_wp2_with fail
      refine HL.out.mono ?_
      rintro e w1 ⟨rfl, n, hn⟩
      have HN := Lib.hid hn
      have h2' : w1.cell? ⟨g, 2, none⟩ = some (.int .i64 0) := by rw [hn]; exact h2
      have f2' : w1.frozen? ⟨g, 2, none⟩ = false := by rw [hn]; exact f2
      obtain ⟨k1, k2, k3⟩ := (show IsR w1 B g bs (p : Int) 0 by rw [hn]; exact HW.out.drewN n).setE 3
      have HW3 := Lib.hid k1
      have HK3 := Lib.hid ((show RKeep w w1 B g by rw [hn]; exact (RKeep.refl w B g).drewN n).trans ⟨k2, k3⟩)
      clear hn k1 k2 k3 h0 h2 f2 HL
      go_wp2
      go_ret
      exact ⟨rfl, HW3.out, HK3.out⟩
    · have hE : endR bs p 0 = 0 := by unfold endR; rw [if_neg (by omega)]
      rw [hE]
      have f3 : decide (0 < d) = false := decide_eq_false c2
      clear hE c2 hd hp hl h h1 f1
      go_enter Try.func12, Try.ntmps12
      go_wp2_with fail
      refine HL.out.mono ?_
      rintro e w1 ⟨rfl, n, hn⟩
      have h2' : w1.cell? ⟨g, 2, none⟩ = some (.int .i64 0) := by rw [hn]; exact h2
      have HW3 := Lib.hid (show IsR w1 B g bs (p : Int) 0 by rw [hn]; exact HW.out.drewN n)
      have HK3 := Lib.hid (show RKeep w w1 B g by rw [hn]; exact (RKeep.refl w B g).drewN n)
      clear hn h0 h2 f2 HL
      go_wp2
      go_ret
      exact ⟨rfl, HW3.out, HK3.out⟩
  · have hE : endR bs p x = x := by unfold endR; rw [if_neg (fun h => c1 h.1)]
    rw [hE]
    have b1 : (x == 0) = false := beq_eq_false_iff_ne.2 c1
    clear hE c1 hp hl h
    go_enter Try.func12, Try.ntmps12
    go_wp2_with fail
    go_ret
    exact ⟨rfl, HW.out, RKeep.refl _ _ _⟩
end Go.Proofs.Ytefnpecncacepaa.Hand
