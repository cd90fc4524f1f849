/- The codec's reader: Var, Text, Hash and End. -/
import Derived.Test.YtfcmdhimlfoofaaProg
import Derived.Below
import Derived.Deep.Draws
import Derived.Deep.AppendLies
import Derived.Maps.AppendAt
import Derived.OwnWalk
import Derived.Laws.BytesArg
import Derived.Laws.MakeOwn
import Derived.Laws.OwnMore
import Derived.Deep.OwnRows
import Derived.Tactics
import Derived.Lib.ConvBytes
import Derived.Laws.Slices
import Derived.WalkKit
import Derived.KernelRfl
import Derived.RowKit3
import Derived.Deep.LoopGhost
import Derived.Deep.QuietTactic
import Derived.BigQuiet
import Derived.WideLaws
import Derived.Deep.DeepCutAuto
import Derived.Deep.CutBlock
import Derived.Deep.RegionHeld3
import Derived.Laws.Rows
import Derived.Lib.AppendStr
import Derived.ArgAppend
import Derived.Laws.IdiomCopy
import Derived.OrdersHeld
import Derived.Laws.BitsLemmas
import Derived.RowKit
import Derived.StillTailTactics
import Derived.Test.YtfcmdhimlfoofaaWWords
import Derived.Test.YtfcmdhimlfoofaaWLast
import Derived.Test.YtfcmdhimlfoofaaWMore
import Derived.Lib.Hide
import Derived.Outline
import Derived.Deep.RegionLaw
import Derived.Deep.RegionHeld3
import Derived.BigRegion
import Derived.Test.YtfcmdhimlfoofaaTake
namespace Go.Proofs.Ytfcmdhimlfoofaa.Hand
open Go Go.RowKit Go.Proofs.Ytfcmdhimlfoofaa.Plain Go.Proofs.Ytfcmdhimlfoofaa.PAll Go.Proofs.YtfcmdhimlfoofaaW.PrintWords Go.Proofs.YtfcmdhimlfoofaaW.PrintLast Go.Proofs.YtfcmdhimlfoofaaW.PrintMore
attribute [local go_sem] max2_int min2_int max_two min_two max_three min_three max_four min_four
set_option linter.unusedVariables false
set_option linter.unusedSimpArgs false
set_option maxHeartbeats 4000000 in
set_option maxRecDepth 100000 in
theorem cvarr_253 {w : World} {B g : Nat} {bs : List Int} {p : Nat} {x most n0 : Int} {p1 : Nat} {x1 : Int} (n2 : Int) (p2 : Nat) (x2 : Int) (h : IsR w B g bs (p : Int) x)
    (HT : Hid (Calls Try.prog 31 #[.pointer (some ⟨g, 0, none⟩), .int .i64 1] w fun e w' => e = .returned (.int .u64 n0) ∧ IsR w' B g bs (p1 : Int) x1 ∧ RKeep w w' B g))
    (HT2 : Hid (∀ w : World, IsR w B g bs (p1 : Int) x1 → Calls Try.prog 31 #[.pointer (some ⟨g, 0, none⟩), .int .i64 2] w fun e w' => e = .returned (.int .u64 n2) ∧ IsR w' B g bs (p2 : Int) x2 ∧ RKeep w w' B g))
    (b253 : (n0 == 253) = true)
    {rv : Int} {rp : Nat} {rx : Int} (hres : var2 p most (n2, 253, p2, x2) = (rv, rp, rx)) :
    Calls Try.prog 55 #[.pointer (some ⟨g, 0, none⟩), .int .u64 most] w fun e w' => e = .returned (.int .u64 rv) ∧ IsR w' B g bs ((rp : Nat) : Int) rx ∧ RKeep w w' B g := by
  obtain ⟨A, c, h0, h1, h2, f1, f2, _, _⟩ := h.cells
  clear h h0 h2 f1 f2
  unfold var2 at hres
  simp only at hres
  by_cases c1 : x2 = 0
  · subst c1
    rw [if_neg (by decide)] at hres
    by_cases c2 : n2 < 253
    · rw [if_pos c2] at hres
      obtain ⟨rfl, rfl, rfl⟩ : 0 = rv ∧ p = rp ∧ 3 = rx := by simpa using hres
      have d1 : decide (n2 < 253) = true := decide_eq_true c2
      clear hres c2
      go_enter Try.func55, Try.ntmps55
      go_wp2_with fail
      refine HT.out.mono ?_
      rintro e w1 ⟨rfl, hw, hk⟩
      have HW := Lib.hid hw
      have HK := Lib.hid hk
      clear hw hk h1 HT
      have HT3 := Lib.hid (HT2.out w1 HW.out)
      clear HT2
      go_wp2_with fail
      refine HT3.out.mono ?_
      rintro e w2 ⟨rfl, hw, hk⟩
      have HW2 := Lib.hid hw
      have HK2 := Lib.hid (HK.out.trans hk)
      clear hw hk HT3
      obtain ⟨A, c, h0, h1, h2, f1, f2, _, _⟩ := HW2.out.cells
      go_wp2_with fail
      refine (cfail_calls HW2.out (p : Int) 3).mono ?_
      rintro e w3 ⟨rfl, hw, hk⟩
      have HW3 := Lib.hid hw
      have HK3 := Lib.hid (HK2.out.trans hk)
      clear hw hk h0 h1 h2 f1 f2
      go_wp2
      go_ret
      exact ⟨rfl, HW3.out, HK3.out⟩
    · rw [if_neg c2] at hres
      have d1 : decide (n2 < 253) = false := decide_eq_false c2
      clear c2
      by_cases c3 : most < n2
      · rw [if_pos c3] at hres
        obtain ⟨rfl, rfl, rfl⟩ : 0 = rv ∧ p = rp ∧ 4 = rx := by simpa using hres
        have d2 : decide (most < n2) = true := decide_eq_true c3
        clear hres c3
        go_enter Try.func55, Try.ntmps55
        go_wp2_with fail
        refine HT.out.mono ?_
        rintro e w1 ⟨rfl, hw, hk⟩
        have HW := Lib.hid hw
        have HK := Lib.hid hk
        clear hw hk h1 HT
        have HT3 := Lib.hid (HT2.out w1 HW.out)
        clear HT2
        go_wp2_with fail
        refine HT3.out.mono ?_
        rintro e w2 ⟨rfl, hw, hk⟩
        have HW2 := Lib.hid hw
        have HK2 := Lib.hid (HK.out.trans hk)
        clear hw hk HT3
        obtain ⟨A, c, h0, h1, h2, f1, f2, _, _⟩ := HW2.out.cells
        go_wp2_with fail
        refine (cfail_calls HW2.out (p : Int) 4).mono ?_
        rintro e w3 ⟨rfl, hw, hk⟩
        have HW3 := Lib.hid hw
        have HK3 := Lib.hid (HK2.out.trans hk)
        clear hw hk h0 h1 h2 f1 f2
        go_wp2
        go_ret
        exact ⟨rfl, HW3.out, HK3.out⟩
      · rw [if_neg c3] at hres
        obtain ⟨rfl, rfl, rfl⟩ : n2 = rv ∧ p2 = rp ∧ 0 = rx := by simpa using hres
        have d2 : decide (most < n2) = false := decide_eq_false c3
        clear hres c3
        go_enter Try.func55, Try.ntmps55
        go_wp2_with fail
        refine HT.out.mono ?_
        rintro e w1 ⟨rfl, hw, hk⟩
        have HW := Lib.hid hw
        have HK := Lib.hid hk
        clear hw hk h1 HT
        have HT3 := Lib.hid (HT2.out w1 HW.out)
        clear HT2
        go_wp2_with fail
        refine HT3.out.mono ?_
        rintro e w2 ⟨rfl, hw, hk⟩
        have HW2 := Lib.hid hw
        have HK2 := Lib.hid (HK.out.trans hk)
        clear hw hk HT3
        obtain ⟨A, c, h0, h1, h2, f1, f2, _, _⟩ := HW2.out.cells
        go_wp2
        go_ret
        exact ⟨rfl, HW2.out, HK2.out⟩
  · rw [if_pos c1] at hres
    obtain ⟨rfl, rfl, rfl⟩ : 0 = rv ∧ p = rp ∧ x2 = rx := by simpa using hres
    have b1 : (x2 != 0) = true := bne_iff_ne.2 c1
    clear hres c1
    go_enter Try.func55, Try.ntmps55
    go_wp2_with fail
    refine HT.out.mono ?_
    rintro e w1 ⟨rfl, hw, hk⟩
    have HW := Lib.hid hw
    have HK := Lib.hid hk
    clear hw hk h1 HT
    have HT3 := Lib.hid (HT2.out w1 HW.out)
    clear HT2
    go_wp2_with fail
    refine HT3.out.mono ?_
    rintro e w2 ⟨rfl, hw, hk⟩
    have HW2 := Lib.hid hw
    have HK2 := Lib.hid (HK.out.trans hk)
    clear hw hk HT3
    obtain ⟨A, c, h0, h1, h2, f1, f2, _, _⟩ := HW2.out.cells
    obtain ⟨k1, k2, k3⟩ := HW2.out.setAt (p : Int)
    have HW3 := Lib.hid k1
    have HK3 := Lib.hid (HK2.out.trans ⟨k2, k3⟩)
    clear k1 k2 k3
    go_wp2
    go_ret
    exact ⟨rfl, HW3.out, HK3.out⟩
set_option maxHeartbeats 4000000 in
set_option maxRecDepth 100000 in
theorem cvarr_254 {w : World} {B g : Nat} {bs : List Int} {p : Nat} {x most n0 : Int} {p1 : Nat} {x1 : Int} (n2 : Int) (p2 : Nat) (x2 : Int) (h : IsR w B g bs (p : Int) x)
    (HT : Hid (Calls Try.prog 31 #[.pointer (some ⟨g, 0, none⟩), .int .i64 1] w fun e w' => e = .returned (.int .u64 n0) ∧ IsR w' B g bs (p1 : Int) x1 ∧ RKeep w w' B g))
    (HT2 : Hid (∀ w : World, IsR w B g bs (p1 : Int) x1 → Calls Try.prog 31 #[.pointer (some ⟨g, 0, none⟩), .int .i64 4] w fun e w' => e = .returned (.int .u64 n2) ∧ IsR w' B g bs (p2 : Int) x2 ∧ RKeep w w' B g))
    (b253 : (n0 == 253) = false)
    (b254 : (n0 == 254) = true)
    {rv : Int} {rp : Nat} {rx : Int} (hres : var2 p most (n2, 65536, p2, x2) = (rv, rp, rx)) :
    Calls Try.prog 55 #[.pointer (some ⟨g, 0, none⟩), .int .u64 most] w fun e w' => e = .returned (.int .u64 rv) ∧ IsR w' B g bs ((rp : Nat) : Int) rx ∧ RKeep w w' B g := by
  obtain ⟨A, c, h0, h1, h2, f1, f2, _, _⟩ := h.cells
  clear h h0 h2 f1 f2
  unfold var2 at hres
  simp only at hres
  by_cases c1 : x2 = 0
  · subst c1
    rw [if_neg (by decide)] at hres
    by_cases c2 : n2 < 65536
    · rw [if_pos c2] at hres
      obtain ⟨rfl, rfl, rfl⟩ : 0 = rv ∧ p = rp ∧ 3 = rx := by simpa using hres
      have d1 : decide (n2 < 65536) = true := decide_eq_true c2
      clear hres c2
      go_enter Try.func55, Try.ntmps55
      go_wp2_with fail
      refine HT.out.mono ?_
      rintro e w1 ⟨rfl, hw, hk⟩
      have HW := Lib.hid hw
      have HK := Lib.hid hk
      clear hw hk h1 HT
      have HT3 := Lib.hid (HT2.out w1 HW.out)
      clear HT2
      go_wp2_with fail
      refine HT3.out.mono ?_
      rintro e w2 ⟨rfl, hw, hk⟩
      have HW2 := Lib.hid hw
      have HK2 := Lib.hid (HK.out.trans hk)
      clear hw hk HT3
      obtain ⟨A, c, h0, h1, h2, f1, f2, _, _⟩ := HW2.out.cells
      go_wp2_with fail
      refine (cfail_calls HW2.out (p : Int) 3).mono ?_
      rintro e w3 ⟨rfl, hw, hk⟩
      have HW3 := Lib.hid hw
      have HK3 := Lib.hid (HK2.out.trans hk)
      clear hw hk h0 h1 h2 f1 f2
      go_wp2
      go_ret
      exact ⟨rfl, HW3.out, HK3.out⟩
    · rw [if_neg c2] at hres
      have d1 : decide (n2 < 65536) = false := decide_eq_false c2
      clear c2
      by_cases c3 : most < n2
      · rw [if_pos c3] at hres
        obtain ⟨rfl, rfl, rfl⟩ : 0 = rv ∧ p = rp ∧ 4 = rx := by simpa using hres
        have d2 : decide (most < n2) = true := decide_eq_true c3
        clear hres c3
        go_enter Try.func55, Try.ntmps55
        go_wp2_with fail
        refine HT.out.mono ?_
        rintro e w1 ⟨rfl, hw, hk⟩
        have HW := Lib.hid hw
        have HK := Lib.hid hk
        clear hw hk h1 HT
        have HT3 := Lib.hid (HT2.out w1 HW.out)
        clear HT2
        go_wp2_with fail
        refine HT3.out.mono ?_
        rintro e w2 ⟨rfl, hw, hk⟩
        have HW2 := Lib.hid hw
        have HK2 := Lib.hid (HK.out.trans hk)
        clear hw hk HT3
        obtain ⟨A, c, h0, h1, h2, f1, f2, _, _⟩ := HW2.out.cells
        go_wp2_with fail
        refine (cfail_calls HW2.out (p : Int) 4).mono ?_
        rintro e w3 ⟨rfl, hw, hk⟩
        have HW3 := Lib.hid hw
        have HK3 := Lib.hid (HK2.out.trans hk)
        clear hw hk h0 h1 h2 f1 f2
        go_wp2
        go_ret
        exact ⟨rfl, HW3.out, HK3.out⟩
      · rw [if_neg c3] at hres
        obtain ⟨rfl, rfl, rfl⟩ : n2 = rv ∧ p2 = rp ∧ 0 = rx := by simpa using hres
        have d2 : decide (most < n2) = false := decide_eq_false c3
        clear hres c3
        go_enter Try.func55, Try.ntmps55
        go_wp2_with fail
        refine HT.out.mono ?_
        rintro e w1 ⟨rfl, hw, hk⟩
        have HW := Lib.hid hw
        have HK := Lib.hid hk
        clear hw hk h1 HT
        have HT3 := Lib.hid (HT2.out w1 HW.out)
        clear HT2
        go_wp2_with fail
        refine HT3.out.mono ?_
        rintro e w2 ⟨rfl, hw, hk⟩
        have HW2 := Lib.hid hw
        have HK2 := Lib.hid (HK.out.trans hk)
        clear hw hk HT3
        obtain ⟨A, c, h0, h1, h2, f1, f2, _, _⟩ := HW2.out.cells
        go_wp2
        go_ret
        exact ⟨rfl, HW2.out, HK2.out⟩
  · rw [if_pos c1] at hres
    obtain ⟨rfl, rfl, rfl⟩ : 0 = rv ∧ p = rp ∧ x2 = rx := by simpa using hres
    have b1 : (x2 != 0) = true := bne_iff_ne.2 c1
    clear hres c1
    go_enter Try.func55, Try.ntmps55
    go_wp2_with fail
    refine HT.out.mono ?_
    rintro e w1 ⟨rfl, hw, hk⟩
    have HW := Lib.hid hw
    have HK := Lib.hid hk
    clear hw hk h1 HT
    have HT3 := Lib.hid (HT2.out w1 HW.out)
    clear HT2
    go_wp2_with fail
    refine HT3.out.mono ?_
    rintro e w2 ⟨rfl, hw, hk⟩
    have HW2 := Lib.hid hw
    have HK2 := Lib.hid (HK.out.trans hk)
    clear hw hk HT3
    obtain ⟨A, c, h0, h1, h2, f1, f2, _, _⟩ := HW2.out.cells
    obtain ⟨k1, k2, k3⟩ := HW2.out.setAt (p : Int)
    have HW3 := Lib.hid k1
    have HK3 := Lib.hid (HK2.out.trans ⟨k2, k3⟩)
    clear k1 k2 k3
    go_wp2
    go_ret
    exact ⟨rfl, HW3.out, HK3.out⟩
set_option maxHeartbeats 4000000 in
set_option maxRecDepth 100000 in
theorem cvarr_255 {w : World} {B g : Nat} {bs : List Int} {p : Nat} {x most n0 : Int} {p1 : Nat} {x1 : Int} (n2 : Int) (p2 : Nat) (x2 : Int) (h : IsR w B g bs (p : Int) x)
    (HT : Hid (Calls Try.prog 31 #[.pointer (some ⟨g, 0, none⟩), .int .i64 1] w fun e w' => e = .returned (.int .u64 n0) ∧ IsR w' B g bs (p1 : Int) x1 ∧ RKeep w w' B g))
    (HT2 : Hid (∀ w : World, IsR w B g bs (p1 : Int) x1 → Calls Try.prog 31 #[.pointer (some ⟨g, 0, none⟩), .int .i64 8] w fun e w' => e = .returned (.int .u64 n2) ∧ IsR w' B g bs (p2 : Int) x2 ∧ RKeep w w' B g))
    (b253 : (n0 == 253) = false)
    (b254 : (n0 == 254) = false)
    (b255 : (n0 == 255) = true)
    {rv : Int} {rp : Nat} {rx : Int} (hres : var2 p most (n2, 4294967296, p2, x2) = (rv, rp, rx)) :
    Calls Try.prog 55 #[.pointer (some ⟨g, 0, none⟩), .int .u64 most] w fun e w' => e = .returned (.int .u64 rv) ∧ IsR w' B g bs ((rp : Nat) : Int) rx ∧ RKeep w w' B g := by
  obtain ⟨A, c, h0, h1, h2, f1, f2, _, _⟩ := h.cells
  clear h h0 h2 f1 f2
  unfold var2 at hres
  simp only at hres
  by_cases c1 : x2 = 0
  · subst c1
    rw [if_neg (by decide)] at hres
    by_cases c2 : n2 < 4294967296
    · rw [if_pos c2] at hres
      obtain ⟨rfl, rfl, rfl⟩ : 0 = rv ∧ p = rp ∧ 3 = rx := by simpa using hres
      have d1 : decide (n2 < 4294967296) = true := decide_eq_true c2
      clear hres c2
      go_enter Try.func55, Try.ntmps55
      go_wp2_with fail
      refine HT.out.mono ?_
      rintro e w1 ⟨rfl, hw, hk⟩
      have HW := Lib.hid hw
      have HK := Lib.hid hk
      clear hw hk h1 HT
      have HT3 := Lib.hid (HT2.out w1 HW.out)
      clear HT2
      go_wp2_with fail
      refine HT3.out.mono ?_
      rintro e w2 ⟨rfl, hw, hk⟩
      have HW2 := Lib.hid hw
      have HK2 := Lib.hid (HK.out.trans hk)
      clear hw hk HT3
      obtain ⟨A, c, h0, h1, h2, f1, f2, _, _⟩ := HW2.out.cells
      go_wp2_with fail
      refine (cfail_calls HW2.out (p : Int) 3).mono ?_
      rintro e w3 ⟨rfl, hw, hk⟩
      have HW3 := Lib.hid hw
      have HK3 := Lib.hid (HK2.out.trans hk)
      clear hw hk h0 h1 h2 f1 f2
      go_wp2
      go_ret
      exact ⟨rfl, HW3.out, HK3.out⟩
    · rw [if_neg c2] at hres
      have d1 : decide (n2 < 4294967296) = false := decide_eq_false c2
      clear c2
      by_cases c3 : most < n2
      · rw [if_pos c3] at hres
        obtain ⟨rfl, rfl, rfl⟩ : 0 = rv ∧ p = rp ∧ 4 = rx := by simpa using hres
        have d2 : decide (most < n2) = true := decide_eq_true c3
        clear hres c3
        go_enter Try.func55, Try.ntmps55
        go_wp2_with fail
        refine HT.out.mono ?_
        rintro e w1 ⟨rfl, hw, hk⟩
        have HW := Lib.hid hw
        have HK := Lib.hid hk
        clear hw hk h1 HT
        have HT3 := Lib.hid (HT2.out w1 HW.out)
        clear HT2
        go_wp2_with fail
        refine HT3.out.mono ?_
        rintro e w2 ⟨rfl, hw, hk⟩
        have HW2 := Lib.hid hw
        have HK2 := Lib.hid (HK.out.trans hk)
        clear hw hk HT3
        obtain ⟨A, c, h0, h1, h2, f1, f2, _, _⟩ := HW2.out.cells
        go_wp2_with fail
        refine (cfail_calls HW2.out (p : Int) 4).mono ?_
        rintro e w3 ⟨rfl, hw, hk⟩
        have HW3 := Lib.hid hw
        have HK3 := Lib.hid (HK2.out.trans hk)
        clear hw hk h0 h1 h2 f1 f2
        go_wp2
        go_ret
        exact ⟨rfl, HW3.out, HK3.out⟩
      · rw [if_neg c3] at hres
        obtain ⟨rfl, rfl, rfl⟩ : n2 = rv ∧ p2 = rp ∧ 0 = rx := by simpa using hres
        have d2 : decide (most < n2) = false := decide_eq_false c3
        clear hres c3
        go_enter Try.func55, Try.ntmps55
        go_wp2_with fail
        refine HT.out.mono ?_
        rintro e w1 ⟨rfl, hw, hk⟩
        have HW := Lib.hid hw
        have HK := Lib.hid hk
        clear hw hk h1 HT
        have HT3 := Lib.hid (HT2.out w1 HW.out)
        clear HT2
        go_wp2_with fail
        refine HT3.out.mono ?_
        rintro e w2 ⟨rfl, hw, hk⟩
        have HW2 := Lib.hid hw
        have HK2 := Lib.hid (HK.out.trans hk)
        clear hw hk HT3
        obtain ⟨A, c, h0, h1, h2, f1, f2, _, _⟩ := HW2.out.cells
        go_wp2
        go_ret
        exact ⟨rfl, HW2.out, HK2.out⟩
  · rw [if_pos c1] at hres
    obtain ⟨rfl, rfl, rfl⟩ : 0 = rv ∧ p = rp ∧ x2 = rx := by simpa using hres
    have b1 : (x2 != 0) = true := bne_iff_ne.2 c1
    clear hres c1
    go_enter Try.func55, Try.ntmps55
    go_wp2_with fail
    refine HT.out.mono ?_
    rintro e w1 ⟨rfl, hw, hk⟩
    have HW := Lib.hid hw
    have HK := Lib.hid hk
    clear hw hk h1 HT
    have HT3 := Lib.hid (HT2.out w1 HW.out)
    clear HT2
    go_wp2_with fail
    refine HT3.out.mono ?_
    rintro e w2 ⟨rfl, hw, hk⟩
    have HW2 := Lib.hid hw
    have HK2 := Lib.hid (HK.out.trans hk)
    clear hw hk HT3
    obtain ⟨A, c, h0, h1, h2, f1, f2, _, _⟩ := HW2.out.cells
    obtain ⟨k1, k2, k3⟩ := HW2.out.setAt (p : Int)
    have HW3 := Lib.hid k1
    have HK3 := Lib.hid (HK2.out.trans ⟨k2, k3⟩)
    clear k1 k2 k3
    go_wp2
    go_ret
    exact ⟨rfl, HW3.out, HK3.out⟩
set_option maxHeartbeats 4000000 in
set_option maxRecDepth 100000 in
theorem cvarr_0 {w : World} {B g : Nat} {bs : List Int} {p : Nat} {x most n0 : Int} {p1 : Nat} {x1 : Int} (n2 : Int) (p2 : Nat) (x2 : Int) (h : IsR w B g bs (p : Int) x)
    (HT : Hid (Calls Try.prog 31 #[.pointer (some ⟨g, 0, none⟩), .int .i64 1] w fun e w' => e = .returned (.int .u64 n0) ∧ IsR w' B g bs (p1 : Int) x1 ∧ RKeep w w' B g))
    (b253 : (n0 == 253) = false)
    (b254 : (n0 == 254) = false)
    (b255 : (n0 == 255) = false)
    (hn : n2 = n0) (hp2 : p2 = p1) (hx2 : x2 = x1)
    {rv : Int} {rp : Nat} {rx : Int} (hres : var2 p most (n2, 0, p2, x2) = (rv, rp, rx)) :
    Calls Try.prog 55 #[.pointer (some ⟨g, 0, none⟩), .int .u64 most] w fun e w' => e = .returned (.int .u64 rv) ∧ IsR w' B g bs ((rp : Nat) : Int) rx ∧ RKeep w w' B g := by
  obtain ⟨A, c, h0, h1, h2, f1, f2, _, _⟩ := h.cells
  clear h h0 h2 f1 f2
  subst hn hp2 hx2
  unfold var2 at hres
  simp only at hres
  by_cases c1 : x2 = 0
  · subst c1
    rw [if_neg (by decide)] at hres
    by_cases c2 : n2 < 0
    · rw [if_pos c2] at hres
      obtain ⟨rfl, rfl, rfl⟩ : 0 = rv ∧ p = rp ∧ 3 = rx := by simpa using hres
      have d1 : decide (n2 < 0) = true := decide_eq_true c2
      clear hres c2
      go_enter Try.func55, Try.ntmps55
      go_wp2_with fail
      refine HT.out.mono ?_
      rintro e w1 ⟨rfl, hw, hk⟩
      have HW := Lib.hid hw
      have HK := Lib.hid hk
      clear hw hk h1 HT
      have HW2 := HW
      have HK2 := HK
      obtain ⟨A, c, h0, h1, h2, f1, f2, _, _⟩ := HW2.out.cells
      go_wp2_with fail
      refine (cfail_calls HW2.out (p : Int) 3).mono ?_
      rintro e w3 ⟨rfl, hw, hk⟩
      have HW3 := Lib.hid hw
      have HK3 := Lib.hid (HK2.out.trans hk)
      clear hw hk h0 h1 h2 f1 f2
      go_wp2
      go_ret
      exact ⟨rfl, HW3.out, HK3.out⟩
    · rw [if_neg c2] at hres
      have d1 : decide (n2 < 0) = false := decide_eq_false c2
      clear c2
      by_cases c3 : most < n2
      · rw [if_pos c3] at hres
        obtain ⟨rfl, rfl, rfl⟩ : 0 = rv ∧ p = rp ∧ 4 = rx := by simpa using hres
        have d2 : decide (most < n2) = true := decide_eq_true c3
        clear hres c3
        go_enter Try.func55, Try.ntmps55
        go_wp2_with fail
        refine HT.out.mono ?_
        rintro e w1 ⟨rfl, hw, hk⟩
        have HW := Lib.hid hw
        have HK := Lib.hid hk
        clear hw hk h1 HT
        have HW2 := HW
        have HK2 := HK
        obtain ⟨A, c, h0, h1, h2, f1, f2, _, _⟩ := HW2.out.cells
        go_wp2_with fail
        refine (cfail_calls HW2.out (p : Int) 4).mono ?_
        rintro e w3 ⟨rfl, hw, hk⟩
        have HW3 := Lib.hid hw
        have HK3 := Lib.hid (HK2.out.trans hk)
        clear hw hk h0 h1 h2 f1 f2
        go_wp2
        go_ret
        exact ⟨rfl, HW3.out, HK3.out⟩
      · rw [if_neg c3] at hres
        obtain ⟨rfl, rfl, rfl⟩ : n2 = rv ∧ p2 = rp ∧ 0 = rx := by simpa using hres
        have d2 : decide (most < n2) = false := decide_eq_false c3
        clear hres c3
        go_enter Try.func55, Try.ntmps55
        go_wp2_with fail
        refine HT.out.mono ?_
        rintro e w1 ⟨rfl, hw, hk⟩
        have HW := Lib.hid hw
        have HK := Lib.hid hk
        clear hw hk h1 HT
        have HW2 := HW
        have HK2 := HK
        obtain ⟨A, c, h0, h1, h2, f1, f2, _, _⟩ := HW2.out.cells
        go_wp2
        go_ret
        exact ⟨rfl, HW2.out, HK2.out⟩
  · rw [if_pos c1] at hres
    obtain ⟨rfl, rfl, rfl⟩ : 0 = rv ∧ p = rp ∧ x2 = rx := by simpa using hres
    have b1 : (x2 != 0) = true := bne_iff_ne.2 c1
    clear hres c1
    go_enter Try.func55, Try.ntmps55
    go_wp2_with fail
    refine HT.out.mono ?_
    rintro e w1 ⟨rfl, hw, hk⟩
    have HW := Lib.hid hw
    have HK := Lib.hid hk
    clear hw hk h1 HT
    have HW2 := HW
    have HK2 := HK
    obtain ⟨A, c, h0, h1, h2, f1, f2, _, _⟩ := HW2.out.cells
    obtain ⟨k1, k2, k3⟩ := HW2.out.setAt (p : Int)
    have HW3 := Lib.hid k1
    have HK3 := Lib.hid (HK2.out.trans ⟨k2, k3⟩)
    clear k1 k2 k3
    go_wp2
    go_ret
    exact ⟨rfl, HW3.out, HK3.out⟩
theorem cvarr_calls {w : World} {B g : Nat} {bs : List Int} {p : Nat} {x : Int} (h : IsR w B g bs (p : Int) x) (hb : ∀ y ∈ bs, 0 ≤ y ∧ y < 256) (hp : p ≤ bs.length) (hl : bs.length ≤ 100000000) (most : Int) :
    Calls Try.prog 55 #[.pointer (some ⟨g, 0, none⟩), .int .u64 most] w fun e w' => e = .returned (.int .u64 (varR bs p x most).1) ∧ IsR w' B g bs ((varR bs p x most).2.1 : Nat) (varR bs p x most).2.2 ∧ RKeep w w' B g := by
  have HT := Lib.hid (cnumr_calls h hb hp hl 1)
  have HP1 := numR_le hp x 1
  have HT2 := fun (a : Int) => Lib.hid (fun (w : World) hw => cnumr_calls (w := w) (B := B) (g := g) (p := (numR bs p x 1).2.1) (x := (numR bs p x 1).2.2) hw hb HP1 hl a)
  by_cases t1 : (numR bs p x 1).1 = 253
  · exact cvarr_253 _ _ _ h HT (HT2 2) (beq_iff_eq.2 t1) (by unfold varR spellR spell2; rw [if_pos t1])
  · by_cases t2 : (numR bs p x 1).1 = 254
    · exact cvarr_254 _ _ _ h HT (HT2 4) (beq_eq_false_iff_ne.2 t1) (beq_iff_eq.2 t2) (by unfold varR spellR spell2; rw [if_neg t1, if_pos t2])
    · by_cases t3 : (numR bs p x 1).1 = 255
      · exact cvarr_255 _ _ _ h HT (HT2 8) (beq_eq_false_iff_ne.2 t1) (beq_eq_false_iff_ne.2 t2) (beq_iff_eq.2 t3) (by unfold varR spellR spell2; rw [if_neg t1, if_neg t2, if_pos t3])
      · exact cvarr_0 _ _ _ h HT (beq_eq_false_iff_ne.2 t1) (beq_eq_false_iff_ne.2 t2) (beq_eq_false_iff_ne.2 t3) rfl rfl rfl (by unfold varR spellR spell2; rw [if_neg t1, if_neg t2, if_neg t3])
set_option maxHeartbeats 4000000 in
set_option maxRecDepth 100000 in
theorem ctextr_calls {w : World} {B g : Nat} {bs : List Int} {p : Nat} {x : Int} (h : IsR w B g bs (p : Int) x) (hb : ∀ y ∈ bs, 0 ≤ y ∧ y < 256) (hp : p ≤ bs.length) (hl : bs.length ≤ 100000000) (most : Int) (hm : most ≤ 9223372036854775807) :
    Calls Try.prog 57 #[.pointer (some ⟨g, 0, none⟩), .int .i64 most] w fun e w' => ∃ v : Value, e = .returned v ∧ Kd.R (Kd.int .u8) 5 w' w.heap.size (fun k => k ≠ g) v (textR bs p x most).1 ∧ IsR w' B g bs ((textR bs p x most).2.1 : Nat) (textR bs p x most).2.2 ∧ RKeep w w' B g := by
  obtain ⟨m, hm2⟩ : ∃ m : Int, mx most 0 = m := ⟨_, rfl⟩
  have em : (if most < 0 then 0 else most) = m := hm2
  have hm0 : 0 ≤ m ∧ m ≤ 9223372036854775807 := by rw [← em]; split <;> omega
  unfold textR
  rw [hm2]
  have hw1 : IntKind.u64.wrap m = m := u64w_id hm0.1 (by omega)
  have HT := Lib.hid (cvarr_calls h hb hp hl m)
  have hvu := varR_u64 hb p x (most := m) hm0.1
  have hvl := varR_le hp x m
  obtain ⟨r, hr⟩ : ∃ r, varR bs p x m = r := ⟨_, rfl⟩
  rw [hr] at HT hvu hvl ⊢
  obtain ⟨n, p1, x1⟩ := r
  simp only at HT hvu hvl ⊢
  have hw2 : IntKind.i64.wrap n = n := IntWalk.i64_in _ (by omega)
  have HTK := Lib.hid (fun (w : World) hw => ctake_calls (w := w) (B := B) (g := g) (p := p1) (x := x1) hw hvl hl n (by omega))
  obtain ⟨r2, hr2⟩ : ∃ r2, takeR bs p1 x1 n = r2 := ⟨_, rfl⟩
  rw [hr2] at HTK ⊢
  obtain ⟨ys, p2, x2⟩ := r2
  simp only at HTK
  obtain ⟨A, c, h0, h1, h2, f1, f2, _, _⟩ := h.cells
  have HLTG := Lib.hid h.lt
  clear h hb hp hl hr hr2 h0 h2 f1 f2 hm0 hvu hvl hm2 hm
  unfold text2
  simp only
  by_cases c1 : x2 = 0
  · subst c1
    rw [if_neg (by decide)]
    go_enter Try.func57, Try.ntmps57
    go_wp2_with fail
    refine HT.out.mono ?_
    rintro e w1 ⟨rfl, hw, hk⟩
    have HT3 := Lib.hid (HTK.out w1 hw)
    have HK := Lib.hid hk
    have HSZ := Lib.hid hk.2.1
    clear hw hk h1 HT HTK
    go_wp2_with fail
    refine HT3.out.mono ?_
    rintro e w2 ⟨v, rfl, hv, hw, hk⟩
    have HV := Lib.hid hv
    have HW2 := Lib.hid hw
    have HK2 := Lib.hid (HK.out.trans hk)
    clear hw hk HT3 hv
    obtain ⟨A, c, h0, h1, h2, f1, f2, _, _⟩ := HW2.out.cells
    go_wp2
    go_ret
    exact ⟨_, rfl, Kd.R_lower HV.out HSZ.out, HW2.out, HK2.out⟩
  · have b1 : (x2 != 0) = true := bne_iff_ne.2 c1
    rw [if_pos c1]
    clear c1
    go_enter Try.func57, Try.ntmps57
    go_wp2_with fail
    refine HT.out.mono ?_
    rintro e w1 ⟨rfl, hw, hk⟩
    have HT3 := Lib.hid (HTK.out w1 hw)
    have HK := Lib.hid hk
    clear hw hk h1 HT HTK
    go_wp2_with fail
    refine HT3.out.mono ?_
    rintro e w2 ⟨v, rfl, hv, hw, hk⟩
    have HW2 := Lib.hid hw
    have HK2 := Lib.hid (HK.out.trans hk)
    clear hw hk HT3 hv
    obtain ⟨A, c, h0, h1, h2, f1, f2, _, _⟩ := HW2.out.cells
    obtain ⟨k1, k2, k3⟩ := HW2.out.setAt (p : Int)
    have HW3 := Lib.hid k1
    have HK3 := Lib.hid (HK2.out.trans ⟨k2, k3⟩)
    clear k1 k2 k3
    go_wp2
    go_ret
    exact ⟨_, rfl, R_nil_g _ _ _, HW3.out, HK3.out⟩
set_option maxHeartbeats 1000000 in
theorem cend_calls {w : World} {B g : Nat} {bs : List Int} {p : Nat} {x : Int} (h : IsR w B g bs (p : Int) x) (hp : p ≤ bs.length) (hl : bs.length ≤ 100000000) :
    Calls Try.prog 34 #[.pointer (some ⟨g, 0, none⟩)] w fun e w' => e = .returned (.int .i64 (endR bs p x)) ∧ IsR w' B g bs (p : Int) (endR bs p x) ∧ RKeep w w' B g := by
  obtain ⟨A, c, h0, h1, h2, f1, f2, _, _⟩ := h.cells
  have HW := Lib.hid h
  by_cases c1 : x = 0
  · subst c1
    have HL := Lib.hid (cleft_calls h (by omega) (by omega) hl)
    obtain ⟨d, hd⟩ : ∃ d : Int, (bs.length : Int) - (p : Int) = d := ⟨_, rfl⟩
    rw [hd] at HL
    by_cases c2 : 0 < d
    · have hE : endR bs p 0 = 3 := by unfold endR; rw [if_pos ⟨rfl, by omega⟩]
      rw [hE]
      have f3 : decide (0 < d) = true := decide_eq_true c2
      clear hE c2 hd hp hl h h1 f1
      go_enter Try.func34, Try.ntmps34
      go_wp2_with fail
      refine HL.out.mono ?_
      rintro e w1 ⟨rfl, n, hn⟩
      have HN := Lib.hid hn
      have h2' : w1.cell? ⟨g, 2, none⟩ = some (.int .i64 0) := by rw [hn]; exact h2
      have f2' : w1.frozen? ⟨g, 2, none⟩ = false := by rw [hn]; exact f2
      obtain ⟨k1, k2, k3⟩ := (show IsR w1 B g bs (p : Int) 0 by rw [hn]; exact HW.out.drewN n).setE 3
      have HW3 := Lib.hid k1
      have HK3 := Lib.hid ((show RKeep w w1 B g by rw [hn]; exact (RKeep.refl w B g).drewN n).trans ⟨k2, k3⟩)
      clear hn k1 k2 k3 h0 h2 f2 HL
      go_wp2
      go_ret
      exact ⟨rfl, HW3.out, HK3.out⟩
    · have hE : endR bs p 0 = 0 := by unfold endR; rw [if_neg (by omega)]
      rw [hE]
      have f3 : decide (0 < d) = false := decide_eq_false c2
      clear hE c2 hd hp hl h h1 f1
      go_enter Try.func34, Try.ntmps34
      go_wp2_with fail
      refine HL.out.mono ?_
      rintro e w1 ⟨rfl, n, hn⟩
      have h2' : w1.cell? ⟨g, 2, none⟩ = some (.int .i64 0) := by rw [hn]; exact h2
      have HW3 := Lib.hid (show IsR w1 B g bs (p : Int) 0 by rw [hn]; exact HW.out.drewN n)
      have HK3 := Lib.hid (show RKeep w w1 B g by rw [hn]; exact (RKeep.refl w B g).drewN n)
      clear hn h0 h2 f2 HL
      go_wp2
      go_ret
      exact ⟨rfl, HW3.out, HK3.out⟩
  · have hE : endR bs p x = x := by unfold endR; rw [if_neg (fun h => c1 h.1)]
    rw [hE]
    have b1 : (x == 0) = false := beq_eq_false_iff_ne.2 c1
    clear hE c1 hp hl h
    go_enter Try.func34, Try.ntmps34
    go_wp2_with fail
    go_ret
    exact ⟨rfl, HW.out, RKeep.refl _ _ _⟩
end Go.Proofs.Ytfcmdhimlfoofaa.Hand
