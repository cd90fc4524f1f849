/- RiceSteps: walked. -/
import Derived.Test.YtakpohcobpbjkaaProg
import Derived.Below
import Derived.Deep.Draws
import Derived.Deep.AppendLies
import Derived.Maps.AppendAt
import Derived.OwnWalk
import Derived.Laws.BytesArg
import Derived.Laws.MakeOwn
import Derived.Laws.OwnMore
import Derived.Deep.OwnRows
import Derived.Tactics
import Derived.Lib.ConvBytes
import Derived.Laws.Slices
import Derived.WalkKit
import Derived.KernelRfl
import Derived.RowKit3
import Derived.Deep.LoopGhost
import Derived.Deep.QuietTactic
import Derived.BigQuiet
import Derived.WideLaws
import Derived.Deep.DeepCutAuto
import Derived.Deep.CutBlock
import Derived.Deep.RegionHeld3
import Derived.Laws.Rows
import Derived.Lib.AppendStr
import Derived.ArgAppend
import Derived.Laws.IdiomCopy
import Derived.OrdersHeld
import Derived.Laws.BitsLemmas
import Derived.RowKit
import Derived.StillTailTactics
import Derived.Test.YtakpohcobpbjkaaWWords
import Derived.Test.YtakpohcobpbjkaaWLast
import Derived.Test.YtakpohcobpbjkaaWMore
import Derived.Lib.Hide
import Derived.LaidEql
import Derived.Outline
import Derived.Test.YtakpohcobpbjkaaSteps
namespace Go.Proofs.Ytakpohcobpbjkaa.Hand
open Go Go.RowKit Go.Proofs.Ytakpohcobpbjkaa.Plain Go.Proofs.Ytakpohcobpbjkaa.PAll Go.Proofs.YtakpohcobpbjkaaW.PrintWords Go.Proofs.YtakpohcobpbjkaaW.PrintLast Go.Proofs.YtakpohcobpbjkaaW.PrintMore
attribute [local go_sem] max2_int min2_int max_two min_two max_three min_three max_four min_four
set_option linter.unusedVariables false
set_option linter.unusedSimpArgs false
theorem few_succ {p : Int} {xs : List Int} {k : Int} (h0 : 0 ≤ k) (h : ∀ i, i < k.toNat → Few p xs i) (hk : ((rd xs k).toNat - prevN xs k.toNat) / 2 ^ hp p ≤ 600 ∨ 65536 < ((rd xs k).toNat - prevN xs k.toNat) / 2 ^ hp p) : ∀ i, i < (k + 1).toNat → Few p xs i := by
  intro i hi
  by_cases e : i = k.toNat
  · subst e
    unfold Few
    rw [Int.toNat_of_nonneg h0]
    exact hk
  · exact h i (by omega)
set_option maxHeartbeats 8000000 in
set_option maxRecDepth 100000 in
theorem law_calls (p : Int) (A : Option Addr) (c : Nat) (xs : List Int) (w : World) (hr : Kd.C (Kd.int .u64) w A xs.length xs) (hc : xs.length ≤ c) (hm : xs.length ≤ 9223372036854775807) (hwf : ∀ x ∈ xs, 0 ≤ x ∧ x < 18446744073709551616) :
    Calls Try.prog 5 #[.int .i64 p, .slice A xs.length c] w fun e w' => e = .returned (.bool true) ∧ Below w.heap.size w w' := by
  have HR := Lib.hid hr
  have HC := Lib.hid hc
  have HWF := Lib.hid hwf
  have HB := Lib.hid (Below.refl w.heap.size w)
  clear hr hwf hc
  by_cases hl : 20 < xs.length
  · go_enter Try.func5, Try.ntmps5
    go_wp2_with fail
    refine (awake_calls _).mono ?_
    rintro e w3 ⟨rfl, hb3⟩
    have HB3 := Lib.hid (HB.out.trans (Below.mono hb3 HB.out.size))
    clear hb3
    go_wp2
    go_ret
    exact ⟨rfl, HB3.out⟩
  · go_enter Try.func5, Try.ntmps5
    go_wp2_with fail
    go_loopw [18] (fun i wr => ∃ (k : Int), 0 ≤ k ∧ k ≤ (xs.length : Int) ∧ i = .int .i64 k ∧ Hid ((∀ i, i < k.toNat → Few p xs i) ∧ Below w.heap.size w wr)) (fun i _ => (20 - intOf i).toNat)
    case atStart => exact ⟨0, by omega, by omega, rfl, Lib.hid ⟨by simp, HB.out⟩⟩
    case round =>
      clear HB
      obtain ⟨k, hk0, hkx, rfl, H⟩ := hrel
      obtain ⟨hfe, hb⟩ := H.out
      have HFEW := Lib.hid hfe
      have HB1 := Lib.hid hb
      clear hfe hb H
      by_cases hlt : k < (xs.length : Int)
      · obtain ⟨ad, rfl, c0⟩ := at_int (Kd.C_below HR.out HB1.out) k hk0 hlt
        have hin := HWF.out _ (rd_mem' hk0 hlt)
        by_cases h0 : k = 0
        · subst h0
          obtain ⟨d, hd⟩ : ∃ d : Nat, rd xs 0 = (d : Int) := ⟨(rd xs 0).toNat, by omega⟩
          have hfew : (rd xs 0).toNat - prevN xs (0 : Int).toNat = d := by rw [hd]; simp [prevN]
          rw [hd] at c0 hin
          have c0z : wr.cell? ad = some (.int .u64 (d : Int)) := c0
          clear hd
          obtain ⟨q, hq⟩ : ∃ q : Nat, d / 2 ^ hp p = q := ⟨_, rfl⟩
          have HO := Lib.hid (ones_ref p d (by omega) 100 (by omega))
          rw [hq] at HO
          by_cases h6 : 600 < q
          · have f1 : decide (600 < (q : Int)) = true := decide_eq_true (by omega)
            by_cases h7 : q ≤ 65536
            · have f2 : decide ((q : Int) ≤ 65536) = true := decide_eq_true (by omega)
              clear hq hfew h6 h7
              go_wp2_with fail
              refine (mastheadref12_Ones.calls _ p (d : Int) _ _ HO.out).mono ?_
              rintro e w4 ⟨rfl, ⟨⟨nd, rfl⟩⟩⟩
              have HB2 := Lib.hid (pw_below_drewN HB1.out nd)
              go_wp2_with fail
              refine (awake_calls _).mono ?_
              rintro e w3 ⟨rfl, hb3⟩
              have HB3 := Lib.hid (HB2.out.trans (Below.mono hb3 HB2.out.size))
              clear hb3
              go_wp2
              go_ret
              exact ⟨rfl, HB3.out⟩
            · have f2 : decide ((q : Int) ≤ 65536) = false := decide_eq_false (by omega)
              have HF := Lib.hid (few_succ (p := p) (xs := xs) hk0 HFEW.out (by rw [hfew, hq]; omega))
              clear hq hfew h6 h7
              go_wp2_with fail
              refine (mastheadref12_Ones.calls _ p (d : Int) _ _ HO.out).mono ?_
              rintro e w4 ⟨rfl, ⟨⟨nd, rfl⟩⟩⟩
              have HB2 := Lib.hid (pw_below_drewN HB1.out nd)
              go_wp2
              go_roundw
              case rel => exact ⟨0 + 1, by omega, by omega, rfl, Lib.hid ⟨HF.out, HB2.out⟩⟩
              case measure => (first | (simp [intOf]; done) | (simp [intOf]; omega))
          · have f1 : decide (600 < (q : Int)) = false := decide_eq_false (by omega)
            have HF := Lib.hid (few_succ (p := p) (xs := xs) hk0 HFEW.out (by rw [hfew, hq]; omega))
            clear hq hfew h6
            go_wp2_with fail
            refine (mastheadref12_Ones.calls _ p (d : Int) _ _ HO.out).mono ?_
            rintro e w4 ⟨rfl, ⟨⟨nd, rfl⟩⟩⟩
            have HB2 := Lib.hid (pw_below_drewN HB1.out nd)
            go_wp2
            go_roundw
            case rel => exact ⟨0 + 1, by omega, by omega, rfl, Lib.hid ⟨HF.out, HB2.out⟩⟩
            case measure => (first | (simp [intOf]; done) | (simp [intOf]; omega))
        · obtain ⟨ad', hae, c1⟩ := at_int (Kd.C_below HR.out HB1.out) (k - 1) (by omega) (by omega)
          obtain rfl : ad' = ad := by injection hae with h; exact h.symm
          have hin1 := HWF.out _ (rd_mem' (xs := xs) (i := k - 1) (by omega) (by omega))
          have hpv : prevN xs k.toNat = (rd xs (k - 1)).toNat := by
            unfold prevN
            rw [if_neg (by omega)]
            congr 2
            omega
          obtain ⟨y, hy⟩ : ∃ y : Int, rd xs k = y := ⟨_, rfl⟩
          obtain ⟨z, hz⟩ : ∃ z : Int, rd xs (k - 1) = z := ⟨_, rfl⟩
          rw [hy] at c0 hin
          rw [hz] at c1 hin1 hpv
          rw [show (k - 1).toNat = k.toNat - 1 by omega] at c1
          obtain ⟨d, hd⟩ : ∃ d : Nat, y.toNat - z.toNat = d := ⟨_, rfl⟩
          have hfew : (rd xs k).toNat - prevN xs k.toNat = d := by rw [hpv, hy, hd]
          obtain ⟨m, hmn⟩ : ∃ m : Int, (if z < y then z else y) = m := ⟨_, rfl⟩
          have hsub : IntKind.u64.wrap (y - m) = (d : Int) := by rw [← hmn]; split <;> rw [u64w_id (by omega) (by omega)] <;> omega
          have HD := Lib.hid (show d < 18446744073709551616 by omega)
          have hk1 : (0 < k) := by omega
          have hdb := HD.out
          clear hy hz hpv hd hae HD hin hin1
          obtain ⟨q, hq⟩ : ∃ q : Nat, d / 2 ^ hp p = q := ⟨_, rfl⟩
          have HO := Lib.hid (ones_ref p d (by omega) 100 (by omega))
          rw [hq] at HO
          by_cases h6 : 600 < q
          · have f1 : decide (600 < (q : Int)) = true := decide_eq_true (by omega)
            by_cases h7 : q ≤ 65536
            · have f2 : decide ((q : Int) ≤ 65536) = true := decide_eq_true (by omega)
              clear hq hfew h6 h7
              go_wp2_with fail
              refine (mastheadref12_Ones.calls _ p (d : Int) _ _ HO.out).mono ?_
              rintro e w4 ⟨rfl, ⟨⟨nd, rfl⟩⟩⟩
              have HB2 := Lib.hid (pw_below_drewN HB1.out nd)
              go_wp2_with fail
              refine (awake_calls _).mono ?_
              rintro e w3 ⟨rfl, hb3⟩
              have HB3 := Lib.hid (HB2.out.trans (Below.mono hb3 HB2.out.size))
              clear hb3
              go_wp2
              go_ret
              exact ⟨rfl, HB3.out⟩
            · have f2 : decide ((q : Int) ≤ 65536) = false := decide_eq_false (by omega)
              have HF := Lib.hid (few_succ (p := p) (xs := xs) hk0 HFEW.out (by rw [hfew, hq]; omega))
              clear hq hfew h6 h7
              go_wp2_with fail
              refine (mastheadref12_Ones.calls _ p (d : Int) _ _ HO.out).mono ?_
              rintro e w4 ⟨rfl, ⟨⟨nd, rfl⟩⟩⟩
              have HB2 := Lib.hid (pw_below_drewN HB1.out nd)
              go_wp2
              go_roundw
              case rel => exact ⟨k + 1, by omega, by omega, rfl, Lib.hid ⟨HF.out, HB2.out⟩⟩
              case measure => (first | (simp [intOf]; done) | (simp [intOf]; omega))
          · have f1 : decide (600 < (q : Int)) = false := decide_eq_false (by omega)
            have HF := Lib.hid (few_succ (p := p) (xs := xs) hk0 HFEW.out (by rw [hfew, hq]; omega))
            clear hq hfew h6
            go_wp2_with fail
            refine (mastheadref12_Ones.calls _ p (d : Int) _ _ HO.out).mono ?_
            rintro e w4 ⟨rfl, ⟨⟨nd, rfl⟩⟩⟩
            have HB2 := Lib.hid (pw_below_drewN HB1.out nd)
            go_wp2
            go_roundw
            case rel => exact ⟨k + 1, by omega, by omega, rfl, Lib.hid ⟨HF.out, HB2.out⟩⟩
            case measure => (first | (simp [intOf]; done) | (simp [intOf]; omega))
      · have hfl : ∀ i, i < xs.length → Few p xs i := fun i hi => HFEW.out i (by omega)
        have HREF := Lib.hid (steps_ref p xs HWF.out (by omega) hfl 30000 (by omega))
        have HL := Lib.hid (show xs.length ≤ 20 by omega)
        obtain ⟨⟨fb, fe⟩, hfin⟩ : ∃ x, stepsOf p 0 xs [] = x := ⟨_, rfl⟩
        rw [hfin] at HREF
        have HFIN := Lib.hid hfin
        clear hfl hfin HFEW
        go_wp2_with fail
        have hh := steps_calls p A c xs _ (Kd.C_below HR.out HB1.out) HL.out HWF.out
        rw [HFIN.out] at hh
        refine hh.mono ?_
        clear hh
        rintro e w2 ⟨v, rfl, hv, hb2⟩
        have HV := Lib.hid hv
        have HB2 := Lib.hid (HB1.out.trans (Below.mono hb2 HB1.out.size))
        clear hv hb2 HB1
        go_wp2_with fail
        refine (mastheadref12_Steps.calls _ p A c xs _ _ _ (Kd.C_below HR.out HB2.out) HC.out HREF.out).mono ?_
        rintro e w3 ⟨rfl, hb3⟩
        have HB3 := Lib.hid (HB2.out.trans (Below.mono hb3 HB2.out.size))
        have hcv := own_string (P := Try.prog) Try.underlying34 Try.underlying5 Try.underlying9 (Kd.own_of_R (Kd.R_below HV.out hb3))
        generalize strOfNums (pk fb) = T at hcv ⊢
        clear HV hb3 HB2
        go_wp2_with fail
        refine (awake_calls _).mono ?_
        rintro e w5 ⟨rfl, hb5⟩
        have HB5 := Lib.hid (HB3.out.trans (Below.mono hb5 HB3.out.size))
        clear hb5 hcv
        go_wp2
        go_ret
        exact ⟨rfl, HB5.out⟩
end Go.Proofs.Ytakpohcobpbjkaa.Hand
