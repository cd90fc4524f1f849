/- RicePuts: walked. -/
import Derived.Test.YtakpohcobpbjkaaProg
import Derived.Below
import Derived.Deep.Draws
import Derived.Deep.AppendLies
import Derived.Maps.AppendAt
import Derived.OwnWalk
import Derived.Laws.BytesArg
import Derived.Laws.MakeOwn
import Derived.Laws.OwnMore
import Derived.Deep.OwnRows
import Derived.Tactics
import Derived.Lib.ConvBytes
import Derived.Laws.Slices
import Derived.WalkKit
import Derived.KernelRfl
import Derived.RowKit3
import Derived.Deep.LoopGhost
import Derived.Deep.QuietTactic
import Derived.BigQuiet
import Derived.WideLaws
import Derived.Deep.DeepCutAuto
import Derived.Deep.CutBlock
import Derived.Deep.RegionHeld3
import Derived.Laws.Rows
import Derived.Lib.AppendStr
import Derived.ArgAppend
import Derived.Laws.IdiomCopy
import Derived.OrdersHeld
import Derived.Laws.BitsLemmas
import Derived.RowKit
import Derived.StillTailTactics
import Derived.Test.YtakpohcobpbjkaaWWords
import Derived.Test.YtakpohcobpbjkaaWLast
import Derived.Test.YtakpohcobpbjkaaWMore
import Derived.Lib.Hide
import Derived.LaidEql
import Derived.Outline
import Derived.Test.YtakpohcobpbjkaaRice
namespace Go.Proofs.Ytakpohcobpbjkaa.Hand
open Go Go.RowKit Go.Proofs.Ytakpohcobpbjkaa.Plain Go.Proofs.Ytakpohcobpbjkaa.PAll Go.Proofs.YtakpohcobpbjkaaW.PrintWords Go.Proofs.YtakpohcobpbjkaaW.PrintLast Go.Proofs.YtakpohcobpbjkaaW.PrintMore
attribute [local go_sem] max2_int min2_int max_two min_two max_three min_three max_four min_four
set_option linter.unusedVariables false
set_option linter.unusedSimpArgs false
set_option maxHeartbeats 40000000 in
set_option maxRecDepth 100000 in
theorem puts_calls (p : Int) (n : Nat) (w : World) (hn : n < 18446744073709551616) :
    Calls Try.prog 4 #[.int .i64 p, .int .u64 n] w fun e w' => e = .returned (.bool true) ∧ Below w.heap.size w w' := by
  have HO := Lib.hid (ones_ref p n hn 100 (by omega))
  obtain ⟨q, hq⟩ : ∃ q : Nat, n / 2 ^ hp p = q := ⟨_, rfl⟩
  rw [hq] at HO
  have hle := hp_le p
  by_cases h1 : 65536 < q
  · have f1 : decide (600 < (q : Int)) = true := decide_eq_true (by omega)
    have f2 : decide ((q : Int) ≤ 65536) = false := decide_eq_false (by omega)
    have HR := Lib.hid (bits_ref_big p n hn (by omega) 100 (by omega))
    have HE : Hid (putErr p n = 4) := Lib.hid (by unfold putErr; rw [if_pos (by omega)])
    have HP : Hid (putBits p n = []) := Lib.hid (by unfold putBits; rw [if_pos (by omega)])
    clear hq h1
    go_enter Try.func4, Try.ntmps4
    go_wp2_with fail
    refine (new_calls _).mono ?_
    rintro e w1 ⟨rfl, hw, hb⟩
    have HW := Lib.hid hw
    have HB := Lib.hid hb
    clear hw hb
    go_wp2_with fail
    refine (mastheadref12_Ones.calls _ p (n : Int) _ _ HO.out).mono ?_
    rintro e w4 ⟨rfl, ⟨⟨nd, rfl⟩⟩⟩
    have HW1 := Lib.hid (HW.out.drewN nd)
    have HB1 := Lib.hid (pw_below_drewN HB.out nd)
    clear HW HB
    go_wp2_with fail
    refine (put12_calls p n HW1.out hn (by decide)).mono ?_
    rw [HE.out, HP.out]
    rintro e w5 ⟨rfl, hw5, hb5⟩
    have HW5 := Lib.hid (show IsB w5 w.heap.size w.heap.size [] from hw5)
    have HB5 := Lib.hid (HB1.out.trans hb5)
    clear hw5 hb5 HW1 HB1
    go_wp2_with fail
    refine (mastheadref12_Bits.calls _ p (n : Int) _ _ _ HR.out).mono ?_
    rintro e w6 ⟨rfl, hb6⟩
    have HW6 := Lib.hid (HW5.out.below hb6)
    have HB6 := Lib.hid (HB5.out.trans (Below.mono hb6 HB5.out.size))
    clear hb6 HW5 HB5
    go_wp2_with fail
    refine (len_bits HW6.out).mono ?_
    rintro e w7 ⟨rfl, rfl⟩
    go_wp2_with fail
    refine (awake_calls _).mono ?_
    rintro e w7 ⟨rfl, hb7⟩
    have HB7 := Lib.hid (HB6.out.trans (Below.mono hb7 HB6.out.size))
    clear hb7
    go_wp2
    go_ret
    exact ⟨rfl, HB7.out⟩
  · by_cases h6 : 600 < q
    · have f1 : decide (600 < (q : Int)) = true := decide_eq_true (by omega)
      have f2 : decide ((q : Int) ≤ 65536) = true := decide_eq_true (by omega)
      clear hq h1 h6
      go_enter Try.func4, Try.ntmps4
      go_wp2_with fail
      refine (new_calls _).mono ?_
      rintro e w1 ⟨rfl, hw, hb⟩
      have HB := Lib.hid hb
      clear hw hb
      go_wp2_with fail
      refine (mastheadref12_Ones.calls _ p (n : Int) _ _ HO.out).mono ?_
      rintro e w4 ⟨rfl, ⟨⟨nd, rfl⟩⟩⟩
      have HB1 := Lib.hid (pw_below_drewN HB.out nd)
      clear HB
      go_wp2_with fail
      refine (awake_calls _).mono ?_
      rintro e w7 ⟨rfl, hb7⟩
      have HB7 := Lib.hid (HB1.out.trans (Below.mono hb7 HB1.out.size))
      clear hb7
      go_wp2
      go_ret
      exact ⟨rfl, HB7.out⟩
    · have f1 : decide (600 < (q : Int)) = false := decide_eq_false (by omega)
      have HE : Hid (putErr p n = 0) := Lib.hid (by unfold putErr; rw [if_neg (by omega)])
      have HP : Hid (putBits p n = riceCode p n) := Lib.hid (by unfold putBits; rw [if_neg (by omega)])
      have hln := riceCode_length p n
      have hbits := bits_ref p n hn (by omega) 1000 (by omega)
      have hsz := size_rice p n hn
      rw [if_neg (by omega)] at hsz
      obtain ⟨l, hl⟩ : ∃ l, riceCode p n = l := ⟨_, rfl⟩
      rw [hl] at hln hbits HP
      have hby := bytes_tells l (by omega) (l.length + 100) (by omega)
      obtain ⟨s, hs⟩ : ∃ s, txt l = s := ⟨_, rfl⟩
      have hss : s.size = l.length := by rw [← hs, txt_size]
      have hw64 : IntKind.u64.wrap (s.size : Int) = (s.size : Int) := u64w_id (by omega) (by omega)
      have HSZ := Lib.hid (show rice_Size.f p (n : Int) = some (s.size : Int) by rw [hsz]; congr 1; omega)
      have HR := Lib.hid hbits
      rw [hs] at hby HR
      have HBY := Lib.hid hby
      have HL := Lib.hid hss
      have HL1 : Hid (l.length ≤ 1000) := Lib.hid (by omega)
      have hcmp : (((l.length : Nat) : Int) == (s.size : Int)) = true := beq_iff_eq.2 (by omega)
      clear hbits hby hsz hq h1 h6 hln hs hss hl
      go_enter Try.func4, Try.ntmps4
      go_wp2_with fail
      refine (new_calls _).mono ?_
      rintro e w1 ⟨rfl, hw, hb⟩
      have HW := Lib.hid hw
      have HB := Lib.hid hb
      clear hw hb
      go_wp2_with fail
      refine (mastheadref12_Ones.calls _ p (n : Int) _ _ HO.out).mono ?_
      rintro e w4 ⟨rfl, ⟨⟨nd, rfl⟩⟩⟩
      have HW1 := Lib.hid (HW.out.drewN nd)
      have HB1 := Lib.hid (pw_below_drewN HB.out nd)
      clear HW HB
      go_wp2_with fail
      refine (put12_calls p n HW1.out hn (by decide)).mono ?_
      rw [HE.out, HP.out]
      rintro e w5 ⟨rfl, hw5, hb5⟩
      have HW5 := Lib.hid (show IsB w5 w.heap.size w.heap.size l from hw5)
      have HB5 := Lib.hid (HB1.out.trans hb5)
      clear hw5 hb5 HW1 HB1
      go_wp2_with fail
      refine (mastheadref12_Bits.calls _ p (n : Int) _ _ _ HR.out).mono ?_
      rintro e w6 ⟨rfl, hb6⟩
      have HW6 := Lib.hid (HW5.out.below hb6)
      have HB6 := Lib.hid (HB5.out.trans (Below.mono hb6 HB5.out.size))
      clear hb6 HW5 HB5
      go_wp2_with fail
      generalize hpk : strOfNums (pk l) = t at HBY
      have HT := Lib.hid hpk
      clear hpk
      go_region_with (first | (go_at_call 15; refine (len_bits HW6.out.drew).mono ?_; rintro e w7 ⟨rfl, rfl⟩) | (go_at_call 16; refine (bytes_bits HW6.out.drew (by have := HL1.out; omega)).mono ?_; rintro e w7 ⟨v, rfl, hv, hb⟩; have hcv := own_string (P := Try.prog) Try.underlying34 Try.underlying5 Try.underlying9 (Kd.own_of_R hv); rw [HT.out] at hcv; have HV := Lib.hid hv; have HB7 := Lib.hid (HB6.out.drew.trans (Below.mono hb HB6.out.size)); clear hb hv) | (go_at_call 17; refine (mastheadref11_Bytes.calls _ _ t _ HBY.out).mono ?_; rintro e w8 ⟨rfl, hb8⟩; have hcv2 := own_string (P := Try.prog) Try.underlying34 Try.underlying5 Try.underlying9 (Kd.own_of_R (Kd.R_below HV.out hb8)); rw [HT.out] at hcv2; have HB8 := Lib.hid (HB7.out.trans (Below.mono hb8 HB7.out.size)); clear hb8) | (go_at_call 10; refine (rice_Size.calls p (n : Int) _ _ HSZ.out).mono ?_; rintro e w9 ⟨rfl, hb9⟩; have HB9 := Lib.hid (HB8.out.trans (Below.mono hb9 HB8.out.size)); clear hb9) | (go_at_call 11; refine (awake_calls _).mono ?_; rintro e w10 ⟨rfl, hb7⟩; have HB10 := Lib.hid (HB9.out.trans (Below.mono hb7 HB9.out.size)); clear hb7))
      all_goals
        go_wp2
        go_ret
        exact ⟨rfl, HB10.out⟩
end Go.Proofs.Ytakpohcobpbjkaa.Hand
