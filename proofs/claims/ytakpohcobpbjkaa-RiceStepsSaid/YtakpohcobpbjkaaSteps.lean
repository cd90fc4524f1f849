/- rice.Steps, walked. -/
import Derived.Test.YtakpohcobpbjkaaProg
import Derived.Below
import Derived.Deep.Draws
import Derived.Deep.AppendLies
import Derived.Maps.AppendAt
import Derived.OwnWalk
import Derived.Laws.BytesArg
import Derived.Laws.MakeOwn
import Derived.Laws.OwnMore
import Derived.Deep.OwnRows
import Derived.Tactics
import Derived.Lib.ConvBytes
import Derived.Laws.Slices
import Derived.WalkKit
import Derived.KernelRfl
import Derived.RowKit3
import Derived.Deep.LoopGhost
import Derived.Deep.QuietTactic
import Derived.BigQuiet
import Derived.WideLaws
import Derived.Deep.DeepCutAuto
import Derived.Deep.CutBlock
import Derived.Deep.RegionHeld3
import Derived.Laws.Rows
import Derived.Lib.AppendStr
import Derived.ArgAppend
import Derived.Laws.IdiomCopy
import Derived.OrdersHeld
import Derived.Laws.BitsLemmas
import Derived.RowKit
import Derived.StillTailTactics
import Derived.Test.YtakpohcobpbjkaaWWords
import Derived.Test.YtakpohcobpbjkaaWLast
import Derived.Test.YtakpohcobpbjkaaWMore
import Derived.Lib.Hide
import Derived.LaidEql
import Derived.Outline
import Derived.Test.YtakpohcobpbjkaaStepsPlain
namespace Go.Proofs.Ytakpohcobpbjkaa.Hand
open Go Go.RowKit Go.Proofs.Ytakpohcobpbjkaa.Plain Go.Proofs.Ytakpohcobpbjkaa.PAll Go.Proofs.YtakpohcobpbjkaaW.PrintWords Go.Proofs.YtakpohcobpbjkaaW.PrintLast Go.Proofs.YtakpohcobpbjkaaW.PrintMore
attribute [local go_sem] max2_int min2_int max_two min_two max_three min_three max_four min_four
set_option linter.unusedVariables false
set_option linter.unusedSimpArgs false
theorem at_int {K : IntKind} {w : World} {A : Option Addr} {n : Nat} {xs : List Int} (h : Kd.C (Kd.int K) w A n xs) (i : Int) (h0 : 0 ≤ i) (h1 : i < n) : ∃ ad, A = some ad ∧ w.cell? (ad.add i.toNat) = some (.int K (rd xs i)) := by
  obtain ⟨ad, c, e, _, hK, hc0⟩ := Kd.C_get h 0 i h0 h1
  have hc : ∀ j u, c[j]? = some u → w.cell? (ad.add (i.toNat * 1 + j)) = some u := hc0
  have he : c = [.int K (rd xs i)] := hK
  subst he
  have := hc 0 _ rfl
  rw [Nat.mul_one, Nat.add_zero] at this
  exact ⟨ad, e, this⟩
theorem rd_mem' {xs : List Int} {i : Int} (h0 : 0 ≤ i) (h1 : i < (xs.length : Int)) : rd xs i ∈ xs := by
  unfold rd
  rw [List.getD_eq_getElem?_getD, List.getElem?_eq_getElem (by omega)]
  exact List.getElem_mem _
set_option maxHeartbeats 4000000 in
set_option maxRecDepth 100000 in
theorem steps_calls (p : Int) (A : Option Addr) (c : Nat) (xs : List Int) (w : World) (hr : Kd.C (Kd.int .u64) w A xs.length xs) (hl : xs.length ≤ 20) (hwf : ∀ x ∈ xs, 0 ≤ x ∧ x < 18446744073709551616) :
    Calls Try.prog 18 #[.int .i64 p, .slice A xs.length c] w fun e w' => ∃ v : Value, e = .returned (.tuple #[v, .int .i64 (stepsOf p 0 xs []).2]) ∧ Kd.R (Kd.int .u8) 5 w' w.heap.size (fun _ => True) v (pk (stepsOf p 0 xs []).1) ∧ Below w.heap.size w w' := by
  have HR := Lib.hid hr
  have HWF := Lib.hid hwf
  obtain ⟨⟨fb, fe⟩, hfin⟩ : ∃ x, stepsOf p 0 xs [] = x := ⟨_, rfl⟩
  rw [hfin]
  have HFIN := Lib.hid hfin
  clear hr hwf hfin
  go_enter Try.func18, Try.ntmps18
  go_wp2_with fail
  refine (new_calls _).mono ?_
  rintro e w1 ⟨rfl, hw, hb⟩
  have HW := Lib.hid hw
  have HB := Lib.hid hb
  clear hw hb
  go_wp2_with fail
  go_loopw [7, 14] (fun v i wr => ∃ (k : Int), 0 ≤ k ∧ k ≤ (xs.length : Int) ∧ i = .int .i64 k ∧ ∃ last : Nat, v = .int .u64 (last : Int) ∧ Hid (∃ acc, stepsOf p last (xs.drop k.toNat) acc = (fb, fe) ∧ last < 18446744073709551616 ∧ (acc.length : Int) ≤ 66000 * k ∧ IsB wr w.heap.size w.heap.size acc ∧ Below w.heap.size w wr)) (fun _ i _ => (20 - intOf i).toNat)
  case atStart => exact ⟨0, by omega, by omega, rfl, 0, rfl, Lib.hid ⟨[], HFIN.out, by omega, by simp, HW.out, HB.out⟩⟩
  case round =>
    clear HW HB
    obtain ⟨k, hk0, hkx, rfl, last, rfl, H⟩ := hrel
    obtain ⟨acc, hst, hll, hac, hw, hb⟩ := H.out
    by_cases hlt : k < (xs.length : Int)
    · obtain ⟨ad, rfl, c0⟩ := at_int (Kd.C_below HR.out hb) k hk0 hlt
      have hin := HWF.out _ (rd_mem' hk0 hlt)
      have hdr := drop_rd (xs := xs) (i := k.toNat) (by omega)
      rw [show ((k.toNat : Nat) : Int) = k by omega, show k.toNat + 1 = (k + 1).toNat by omega] at hdr
      obtain ⟨y, hy⟩ : ∃ y : Nat, rd xs k = (y : Int) := ⟨(rd xs k).toNat, by omega⟩
      rw [hdr, hy] at hst
      rw [hy] at c0 hin
      unfold stepsOf at hst
      rw [Int.toNat_natCast] at hst
      have HW1 := Lib.hid hw
      have HB1 := Lib.hid hb
      have HAC := Lib.hid (show acc.length ≤ 800000000 by omega)
      have HAK := Lib.hid hac
      clear hw hb H hdr hac
      by_cases h5 : y < last
      · have f5 : decide ((y : Int) < (last : Int)) = true := decide_eq_true (by omega)
        have g5 : (y < last) = True := eq_true h5
        rw [if_pos h5] at hst
        obtain ⟨rfl, rfl⟩ := Prod.mk.inj hst
        clear hst h5
        go_wp2
        go_ret2
        exact ⟨_, rfl, Kd.R_nil _ _ _ _ _, HB1.out⟩
      · have f5 : decide ((y : Int) < (last : Int)) = false := decide_eq_false (by omega)
        have g5 : (y < last) = False := eq_false h5
        rw [if_neg h5] at hst
        have hsub : IntKind.u64.wrap ((y : Int) - (last : Int)) = ((y - last : Nat) : Int) := by rw [u64w_id (by omega) (by omega)]; omega
        obtain ⟨z, hz⟩ : ∃ z : Nat, y - last = z := ⟨_, rfl⟩
        rw [hz] at hsub hst
        have HZ := Lib.hid (show z < 18446744073709551616 by omega)
        by_cases hq : 65536 < z / 2 ^ hp p
        · rw [if_pos hq] at hst
          obtain ⟨rfl, rfl⟩ := Prod.mk.inj hst
          have HE : Hid (putErr p z = 4) := Lib.hid (by unfold putErr; rw [if_pos (by omega)])
          clear hst h5 hq hz
          go_wp2_with fail
          refine (put12_calls p z HW1.out HZ.out HAC.out).mono ?_
          rw [HE.out]
          rintro e w3 ⟨rfl, hw3, hb3⟩
          have HB3 := Lib.hid (HB1.out.trans hb3)
          clear hw3 hb3 HW1 HB1 c0
          go_wp2
          go_ret2
          exact ⟨_, rfl, Kd.R_nil _ _ _ _ _, HB3.out⟩
        · rw [if_neg hq] at hst
          have HE : Hid (putErr p z = 0) := Lib.hid (by unfold putErr; rw [if_neg (by omega)])
          have HP : Hid (putBits p z = riceCode p z) := Lib.hid (by unfold putBits; rw [if_neg (by omega)])
          have HST := Lib.hid hst
          have HLEN := Lib.hid (show ((acc ++ riceCode p z).length : Int) ≤ 66000 * (k + 1) by
            have := HAK.out
            have h1 := riceCode_length p z
            have h2 := hp_le p
            rw [List.length_append]
            omega)
          have HY := Lib.hid (show y < 18446744073709551616 by omega)
          clear hst h5 hq hz
          go_wp2_with fail
          refine (put12_calls p z HW1.out HZ.out HAC.out).mono ?_
          rw [HE.out, HP.out]
          rintro e w3 ⟨rfl, hw3, hb3⟩
          have HW3 := Lib.hid hw3
          have HB3 := Lib.hid (HB1.out.trans hb3)
          clear hw3 hb3 HW1 HB1 c0
          go_wp2
          go_roundw
          case rel => exact ⟨k + 1, by omega, by omega, rfl, y, rfl, Lib.hid ⟨_, HST.out, HY.out, HLEN.out, HW3.out, HB3.out⟩⟩
          case measure => simp [intOf]; omega
    · have ek : k.toNat = xs.length := by omega
      rw [ek, List.drop_length] at hst
      unfold stepsOf at hst
      obtain ⟨rfl, rfl⟩ := Prod.mk.inj hst
      have HW1 := Lib.hid hw
      have HB1 := Lib.hid hb
      have HAC := Lib.hid (show acc.length ≤ 1000000000 by omega)
      clear hw hb H hst hac ek
      go_wp2_with fail
      refine (bytes_bits HW1.out HAC.out).mono ?_
      rintro e w2 ⟨v, rfl, hv, hb2⟩
      obtain ⟨A2, c2, rfl, hc2, hC2⟩ := Kd.R_reads hv
      have HV := Lib.hid hv
      have HB2 := Lib.hid (HB1.out.trans (Below.mono hb2 HB1.out.size))
      have HS := Lib.hid HB1.out.size
      clear hv hb2 hC2 hc2 HW1 HB1
      go_wp2
      go_ret2
      refine ⟨_, rfl, ?_, HB2.out⟩
      exact Kd.R_lower HV.out HS.out
end Go.Proofs.Ytakpohcobpbjkaa.Hand
