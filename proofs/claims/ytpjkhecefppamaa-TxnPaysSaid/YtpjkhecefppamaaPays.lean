/- TxnPays: walked. -/
import Derived.Test.YtpjkhecefppamaaProg
import Derived.Below
import Derived.Deep.Draws
import Derived.Deep.AppendLies
import Derived.Maps.AppendAt
import Derived.OwnWalk
import Derived.Laws.BytesArg
import Derived.Laws.MakeOwn
import Derived.Laws.OwnMore
import Derived.Deep.OwnRows
import Derived.Tactics
import Derived.Lib.ConvBytes
import Derived.Laws.Slices
import Derived.WalkKit
import Derived.KernelRfl
import Derived.RowKit3
import Derived.Deep.LoopGhost
import Derived.Deep.QuietTactic
import Derived.BigQuiet
import Derived.WideLaws
import Derived.Deep.DeepCutAuto
import Derived.Deep.CutBlock
import Derived.Deep.RegionHeld3
import Derived.Laws.Rows
import Derived.Lib.AppendStr
import Derived.ArgAppend
import Derived.Laws.IdiomCopy
import Derived.OrdersHeld
import Derived.Laws.BitsLemmas
import Derived.RowKit
import Derived.StillTailTactics
import Derived.Test.YtpjkhecefppamaaWWords
import Derived.Test.YtpjkhecefppamaaWLast
import Derived.Test.YtpjkhecefppamaaWMore
import Derived.Lib.Hide
import Derived.LaidEql
import Derived.Outline
import Derived.Deep.RegionLaw
import Derived.Deep.DrawnRows
import Derived.Test.YtpjkhecefppamaaAwake
import Derived.Test.YtpjkhecefppamaaSmall
import Derived.Test.YtpjkhecefppamaaSum
import Derived.Test.YtpjkhecefppamaaWords
namespace Go.Proofs.Ytpjkhecefppamaa.Hand
open Go Go.RowKit Go.Proofs.Ytpjkhecefppamaa.Plain Go.Proofs.Ytpjkhecefppamaa.PAll Go.Proofs.YtpjkhecefppamaaW.PrintWords Go.Proofs.YtpjkhecefppamaaW.PrintLast Go.Proofs.YtpjkhecefppamaaW.PrintMore
set_option linter.unusedVariables false
set_option linter.unusedSimpArgs false
attribute [local go_sem ↓] Go.wp_at_zero Go.wp_at_succ
theorem small_len {outs : List OutT} (h : smallT outs = true) : outs.length ≤ 20 := by
  unfold smallT at h
  rw [Bool.and_eq_true] at h
  simpa using h.1
set_option maxHeartbeats 4000000 in
set_option maxRecDepth 100000 in
theorem pays_calls (salt : Int) (A : Option Addr) (c : Nat) (outs : List OutT) (AI : Option Addr) (cI : Nat) (item : List Int) (w : World) (hr : Kd.C k54 w A outs.length outs) (hc : outs.length ≤ c) (hv : ∀ o ∈ outs, 0 ≤ o.f0 ∧ o.f0 < 18446744073709551616) (hri : Kd.C (Kd.int .u8) w AI item.length item) (hci : item.length ≤ cI) :
    Calls Try.prog 3 #[.agg #[.int .u64 salt, .slice A outs.length c], .slice AI item.length cI] w fun e w' => e = .returned (.bool true) ∧ Below w.heap.size w w' := by
  have HR := Lib.hid hr
  have HC := Lib.hid hc
  have HRI := Lib.hid hri
  have HCI := Lib.hid hci
  have HV := Lib.hid hv
  obtain ⟨W1, hW1⟩ : ∃ W1, w.alloc (.cells #[.int .u64 salt, .slice A outs.length c] 25) = W1 := ⟨_, rfl⟩
  have HB0 : Hid (Below w.heap.size w W1) := Lib.hid (by rw [← hW1]; exact below_alloc (Below.refl _ _) _)
  have HBOX : Hid (∀ w2, Below W1.heap.size W1 w2 → w2.cell? ⟨w.heap.size, 0, none⟩ = some (.int .u64 salt) ∧ w2.cell? ⟨w.heap.size, 1, none⟩ = some (.slice A outs.length c)) := Lib.hid fun w2 hb => by
    have hnew : W1.heap[w.heap.size]? = some (.cells #[.int .u64 salt, .slice A outs.length c] 25 (0, 0)) := by rw [← hW1]; simpa using heap_alloc_new w _
    have h2 := (hb.block w.heap.size (blk_lt hnew)).trans hnew
    exact ⟨(blk_cell h2 0).trans rfl, (blk_cell h2 1).trans rfl⟩
  have HSM := Lib.hid (mastheadlaw14_small.calls 21 salt A c outs (smallT outs) W1 (Kd.C_below HR.out HB0.out) HC.out (small_f salt outs))
  have HW1 := Lib.hid hW1
  have HTR := Lib.hid (fun w2 (hb : Below W1.heap.size W1 w2) => HB0.out.trans (Below.mono hb HB0.out.size))
  obtain ⟨r, hrr⟩ : ∃ r, smallT outs = r := ⟨_, rfl⟩
  rw [hrr] at HSM
  have HRR := Lib.hid hrr
  obtain ⟨lenI, hlenI⟩ : ∃ n, item.length = n := ⟨_, rfl⟩
  have HLI := Lib.hid hlenI
  rw [hlenI]
  clear hr hc hri hci hv hW1 hrr hlenI
  obtain ⟨y0, y1⟩ := HBOX.out W1 (Below.refl _ _)
  go_enter Try.func3, Try.ntmps3
  go_wp2_with fail
  rw [HW1.out]
  with_reducible refine HSM.out.mono ?_
  rintro e w3 ⟨rfl, hb3⟩
  have HB3 := Lib.hid hb3
  clear hb3 y0 y1 HSM
  obtain ⟨y0, y1⟩ := HBOX.out _ HB3.out
  have hout : r = false ∨ 200 < lenI ∨ (r = true ∧ lenI ≤ 200) := by cases r <;> simp <;> omega
  rcases hout with rfl | h200 | ⟨rfl, h200⟩
  · go_wp2_with fail
    refine (awake_calls _).mono ?_
    rintro e w4 ⟨rfl, hb4⟩
    have HB4 := Lib.hid ((HTR.out _ HB3.out).trans (Below.mono hb4 (HTR.out _ HB3.out).size))
    clear hb4
    go_wp2
    go_ret
    exact ⟨rfl, HB4.out⟩
  · have b1 : decide ((200 : Int) < (lenI : Int)) = true := decide_eq_true (by omega)
    clear h200
    cases r <;>
    · go_wp2_with fail
      refine (awake_calls _).mono ?_
      rintro e w4 ⟨rfl, hb4⟩
      have HB4 := Lib.hid ((HTR.out _ HB3.out).trans (Below.mono hb4 (HTR.out _ HB3.out).size))
      clear hb4
      go_wp2
      go_ret
      exact ⟨rfl, HB4.out⟩
  · have b1 : decide ((200 : Int) < (lenI : Int)) = false := decide_eq_false (by omega)
    have HN := Lib.hid (small_len HRR.out)
    obtain ⟨D, hD, dvD, dgD, cnD⟩ := rsum_f salt outs item HN.out HV.out
    have HRS : Hid (∀ w2 A2 c2, Kd.C k56 w2 A2 (outs.map toO).length (outs.map toO) → (outs.map toO).length ≤ c2 → Calls Try.prog 8 #[.agg #[.int .u64 salt, .slice A2 (outs.map toO).length c2], .string (strOfNums item)] w2 fun e w' => ∃ v0 : Value, e = .returned (.tuple #[v0, .bool (outs.any (hit item))]) ∧ Kd.R (Kd.int .i64) 3 w' w2.heap.size (fun _ => True) v0 D ∧ Below w2.heap.size w2 w') := Lib.hid fun w2 A2 c2 h1 h2 => mastheadref14_Sum.calls 5000 salt A2 c2 _ _ _ _ w2 h1 h2 hD
    have HRF : Hid (∀ w2, Below W1.heap.size W1 w2 → Calls Try.prog 9 #[.agg #[.int .u64 salt, .slice A outs.length c]] w2 fun e w' => ∃ v1 : Value, e = .returned (.agg #[.int .u64 salt, v1]) ∧ Kd.R k56 56 w' w2.heap.size (fun _ => True) v1 (outs.map toO) ∧ Below w2.heap.size w2 w') := Lib.hid fun w2 hb => mastheadlaw14_Ref.calls 21 salt A c outs _ _ w2 (Kd.C_below HR.out (HTR.out _ hb)) HC.out (ref_f salt outs (by have := HN.out; omega) 21 (by have := HN.out; omega))
    have HTS : Hid (∀ w2, Below W1.heap.size W1 w2 → Calls Try.prog 10 #[.agg #[.int .u64 salt, .slice A outs.length c], .slice AI lenI cI] w2 fun e w' => e = .returned (.tuple #[.int .u64 (sumV (sumL item outs)), .bool (sumB (sumL item outs))]) ∧ Below w2.heap.size w2 w') := Lib.hid fun w2 hb => by
      have := tsum_calls salt A c outs AI cI item w2 (Kd.C_below HR.out (HTR.out _ hb)) HC.out HV.out (by have := HN.out; omega) (Kd.C_below HRI.out (HTR.out _ hb)) HCI.out
      rwa [HLI.out] at this
    have HTP : Hid (∀ w2, Below W1.heap.size W1 w2 → Calls Try.prog 11 #[.agg #[.int .u64 salt, .slice A outs.length c], .slice AI lenI cI] w2 fun e w' => e = .returned (.bool (outs.any (hit item))) ∧ Below w2.heap.size w2 w') := Lib.hid fun w2 hb => by
      have := txn_Tx_Pays.calls 21 salt A c outs AI cI item (outs.any (hit item)) w2 (Kd.C_below HR.out (HTR.out _ hb)) HC.out (Kd.C_below HRI.out (HTR.out _ hb)) HCI.out (pays_f salt outs item HN.out)
      rwa [HLI.out] at this
    have HCV : Hid (∀ w2, Below W1.heap.size W1 w2 → (convert 26 9 (.slice AI lenI cI)).run Try.prog w2 = .ok (.string (strOfNums item)) w2) := Lib.hid fun w2 hb => by
      have := Kd.C_string (P := Try.prog) (c := cI) Try.underlying26 Try.underlying5 Try.underlying9 (Kd.C_below HRI.out (HTR.out _ hb))
      rwa [HLI.out] at this
    have HDV := Lib.hid (show 4 < D.length ↔ ¬ sumL item outs < 18446744073709551616 from by
      rw [cn_len dgD cnD 4, dvD]
      show 18446744073709551616 ≤ _ ↔ _
      omega)
    have HDD := Lib.hid dgD
    have HDT := Lib.hid dvD
    obtain ⟨P, hP⟩ : ∃ P, outs.any (hit item) = P := ⟨_, rfl⟩
    obtain ⟨T, hT⟩ : ∃ T, sumL item outs = T := ⟨_, rfl⟩
    obtain ⟨S, hS⟩ : ∃ S, strOfNums item = S := ⟨_, rfl⟩
    obtain ⟨xs, hxs⟩ : ∃ xs, outs.map toO = xs := ⟨_, rfl⟩
    rw [hxs] at HRS HRF
    rw [hP] at HRS HTP
    rw [hT] at HTS HDV HDT
    rw [hS] at HRS HCV
    clear hD dvD dgD cnD hP hT hS h200 y0 y1 hxs
    obtain ⟨y0, y1⟩ := HBOX.out _ (below_drew HB3.out)
    have hcv := HCV.out _ (below_drew HB3.out)
    have HRF1 := Lib.hid (HRF.out _ (below_drew HB3.out))
    clear HRF
    go_wp2_with fail
    go_region_law (first
      | (go_simp; go_at_call 9; with_reducible refine HRF1.out.mono ?_; rintro e w4 ⟨v1, rfl, hv1, hb4⟩; obtain ⟨A2, c2, rfl⟩ := Kd.R_slice hv1; obtain ⟨_, hl2, hC2⟩ := Kd.R_reads' hv1; have HB4 := Lib.hid ((below_drew HB3.out).trans (Below.mono hb4 (below_drew HB3.out).size)); have hcv4 := HCV.out _ HB4.out; have HRS1 := Lib.hid (HRS.out w4 A2 c2 hC2 hl2); clear hv1 hb4 hC2 hl2)
      | (go_simp; go_at_call 8; with_reducible refine HRS1.out.mono ?_; rintro e w5 ⟨v0, rfl, hv0, hb5⟩; have HD5 := Lib.hid hv0; have HB5 := Lib.hid (HB4.out.trans (Below.mono hb5 HB4.out.size)); clear hv0 hb5))
    all_goals
      obtain ⟨A3, c3, rfl⟩ := Kd.R_slice HD5.out
      obtain ⟨y0, y1⟩ := HBOX.out _ HB5.out
      have HTS1 := Lib.hid (HTS.out _ HB5.out)
      have hT : (T < 18446744073709551616) ∨ ¬ (T < 18446744073709551616) := Classical.em _
      rcases hT with hT | hT
      · have hL : D.length ≤ 4 := by have := HDV.out; omega
        have HLD := Lib.hid hL
        rw [show sumV T = T from if_pos hT, show sumB T = true from decide_eq_true hT] at HTS1
        have b4 : decide ((4 : Int) < (D.length : Int)) = false := decide_eq_false (by omega)
        clear hT hL
        go_wp2_with fail
        with_reducible refine HTS1.out.mono ?_
        rintro e w6 ⟨rfl, hb6⟩
        have HB6 := Lib.hid (HB5.out.trans (Below.mono hb6 HB5.out.size))
        have HD6 := Lib.hid (Kd.R_below HD5.out hb6)
        clear hb6 y0 y1 HTS1
        obtain ⟨y0, y1⟩ := HBOX.out _ HB6.out
        have HTP1 := Lib.hid (HTP.out _ HB6.out)
        go_wp2_with fail
        with_reducible refine HTP1.out.mono ?_
        rintro e w7 ⟨rfl, hb7⟩
        have HB7 := Lib.hid (HB6.out.trans (Below.mono hb7 HB6.out.size))
        have HW7 := Lib.hid (show Calls Try.prog 12 #[.slice A3 D.length c3] w7 fun e w' => e = .returned (.agg #[.int .u64 T, .int .u64 0, .int .u64 0, .int .u64 0]) ∧ Below w7.heap.size w7 w' from by
          obtain ⟨_, hl, hC⟩ := Kd.R_reads' (Kd.R_below HD6.out hb7)
          have := words_calls A3 c3 D w7 hC hl HDD.out HLD.out
          rwa [HDT.out] at this)
        clear hb7 y0 y1 HTP1
        go_wp2_with fail
        with_reducible refine HW7.out.mono ?_
        rintro e w8 ⟨rfl, hb8⟩
        have HB8 := Lib.hid (HB7.out.trans (Below.mono hb8 HB7.out.size))
        clear hb8 HW7
        have hix : ∀ W, (Instr.index 40 (.agg #[.int .u64 T, .int .u64 0, .int .u64 0, .int .u64 0]) (.int .i64 0)).run Try.prog W = .ok (.int .u64 T) W := fun W => by
          have z3 : (sizeOf 22).run Try.prog W = .ok 1 W := by rfl
          have a3 : (isAgg 22).run Try.prog W = .ok false W := by simp [isAgg, run_underlying Try.underlying22]
          unfold Instr.index
          simp [run_underlying Try.underlying40, asIntOf, part, z3, a3]
        go_wp2_with fail
        refine (awake_calls _).mono ?_
        rintro e w9 ⟨rfl, hb9⟩
        have HB9 := Lib.hid ((HTR.out _ HB8.out).trans (Below.mono hb9 (HTR.out _ HB8.out).size))
        clear hb9
        go_wp2
        go_ret
        exact ⟨rfl, HB9.out⟩
      · have hL : 4 < D.length := HDV.out.mpr (by omega)
        rw [show sumV T = 0 from if_neg hT, show sumB T = false from decide_eq_false hT] at HTS1
        have b4 : decide ((4 : Int) < (D.length : Int)) = true := decide_eq_true (by omega)
        clear hT hL
        go_wp2_with fail
        with_reducible refine HTS1.out.mono ?_
        rintro e w6 ⟨rfl, hb6⟩
        have HB6 := Lib.hid (HB5.out.trans (Below.mono hb6 HB5.out.size))
        clear hb6 y0 y1 HTS1
        obtain ⟨y0, y1⟩ := HBOX.out _ HB6.out
        have HTP1 := Lib.hid (HTP.out _ HB6.out)
        go_wp2_with fail
        with_reducible refine HTP1.out.mono ?_
        rintro e w7 ⟨rfl, hb7⟩
        have HB7 := Lib.hid (HB6.out.trans (Below.mono hb7 HB6.out.size))
        clear hb7 y0 y1 HTP1
        go_wp2_with fail
        refine (awake_calls _).mono ?_
        rintro e w9 ⟨rfl, hb9⟩
        have HB9 := Lib.hid ((HTR.out _ HB7.out).trans (Below.mono hb9 (HTR.out _ HB7.out).size))
        clear hb9
        go_wp2
        go_ret
        exact ⟨rfl, HB9.out⟩
end Go.Proofs.Ytpjkhecefppamaa.Hand
