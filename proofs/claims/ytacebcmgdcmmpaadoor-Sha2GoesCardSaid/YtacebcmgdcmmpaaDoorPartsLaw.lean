/- The law Sha2Parts: its walk. -/
import Derived.Test.YtacebcmgdcmmpaaDoorProg
import Derived.Below
import Derived.Deep.Draws
import Derived.Deep.AppendLies
import Derived.Maps.AppendAt
import Derived.OwnWalk
import Derived.Laws.BytesArg
import Derived.Laws.MakeOwn
import Derived.Laws.OwnMore
import Derived.Deep.OwnRows
import Derived.Tactics
import Derived.Lib.ConvBytes
import Derived.Laws.Slices
import Derived.WalkKit
import Derived.KernelRfl
import Derived.RowKit3
import Derived.Deep.LoopGhost
import Derived.Deep.QuietTactic
import Derived.BigQuiet
import Derived.WideLaws
import Derived.Deep.DeepCutAuto
import Derived.Deep.CutBlock
import Derived.Deep.RegionHeld3
import Derived.Laws.Rows
import Derived.Lib.AppendStr
import Derived.ArgAppend
import Derived.Laws.IdiomCopy
import Derived.OrdersHeld
import Derived.Laws.BitsLemmas
import Derived.RowKit
import Derived.StillTailTactics
import Derived.Test.YtacebcmgdcmmpaaDoorWWords
import Derived.Test.YtacebcmgdcmmpaaDoorWLast
import Derived.Test.YtacebcmgdcmmpaaDoorWMore
import Derived.Lib.Hide
import Derived.Outline
import Derived.Test.YtacebcmgdcmmpaaDoorSumsLaw
namespace Go.Proofs.YtacebcmgdcmmpaaDoor.Hand
open Go Go.RowKit Go.Proofs.YtacebcmgdcmmpaaDoor.Plain Go.Proofs.YtacebcmgdcmmpaaDoor.PAll Go.Proofs.YtacebcmgdcmmpaaDoorW.PrintWords Go.Proofs.YtacebcmgdcmmpaaDoorW.PrintLast Go.Proofs.YtacebcmgdcmmpaaDoorW.PrintMore
set_option linter.unusedVariables false
set_option linter.unusedSimpArgs false
theorem flat_take {yss : List (List Int)} {k : Nat} (hk : k < yss.length) : (yss.take (k + 1)).flatten = (yss.take k).flatten ++ yss[k] := by
  rw [List.take_succ_eq_append_getElem hk, List.flatten_append]
  simp
set_option maxHeartbeats 1000000 in
set_option maxRecDepth 100000 in
theorem partsl_calls (A : Option Addr) (n c : Nat) (yss : List (List Int)) (w : World) (hK : KT w) (hn : yss.length = n) (hr : Kd.C kBs w A n yss) (hy : ∀ ys ∈ yss, ∀ x ∈ ys, 0 ≤ x ∧ x < 256) (hm : n ≤ 9223372036854775807) :
    Calls Tryd.prog 8 #[.slice A n c] w fun e w' => e = .returned (.bool true) ∧ Below w.heap.size w w' := by
  have HK := Lib.hid hK
  have HR := Lib.hid hr
  have HN := Lib.hid hn
  have HY := Lib.hid hy
  have HE : Kd.R (Kd.int .u8) 5 (w.alloc (.cells #[] 5)) w.heap.size (fun _ => True) (.slice (some ⟨w.heap.size, 0, none⟩) 0 0) [] := ⟨fun _ _ => trivial, OwnRow.lit w w.heap.size (ps := ([] : List Int)) (inner := []) (Reps.none _ _) (Nat.le_refl _) (by simp)⟩
  have HE0 := Lib.hid HE
  have HB0 := Lib.hid (below_alloc (Below.refl w.heap.size w) (.cells #[] 5))
  clear hK hr hn hy HE
  go_enter Tryd.func8, Tryd.ntmps8
  go_wp2_with fail
  go_loopw [3, 9] (fun v i wr => ∃ k : Nat, k ≤ n ∧ k ≤ 20 ∧ i = .int .i64 (k : Int) ∧ Hid (Kd.R (Kd.int .u8) 5 wr w.heap.size (fun _ => True) v (yss.take k).flatten ∧ Below w.heap.size w wr ∧ (yss.take k).flatten.length ≤ 90 * k)) (fun _ i _ => (n - (intOf i).toNat))
  case atStart => exact ⟨0, by omega, by omega, rfl, Lib.hid ⟨HE0.out, HB0.out, by simp⟩⟩
  case round =>
    obtain ⟨k, hk, hk20, rfl, H⟩ := hrel
    obtain ⟨hR, hbl, hfl⟩ := H.out
    have HRV := Lib.hid hR
    have HBL := Lib.hid hbl
    have HAW := Lib.hid (awake_calls wr (HK.out.below hbl (Nat.le_refl _)))
    by_cases hlt : k < n
    · have hklt : k < yss.length := by rw [HN.out]; exact hlt
      obtain ⟨ad, Ai, ci, hA, hcell, hci, hCi⟩ := C_text (by rw [HN.out]; exact HR.out) hklt
      subst hA
      have hadb := block_lt_of_cell hcell
      have hcell2 : wr.cell? (ad.add k) = some (.slice Ai (yss[k]).length ci) := (hbl.cell (p := ad.add k) hadb).trans hcell
      have hcell3 : wr.cell? (ad.add (k * 1)) = some (.slice Ai (yss[k]).length ci) := by rw [Nat.mul_one]; exact hcell2
      have hstep := flat_take hklt
      have hCi2 := Kd.C_below hCi hbl
      obtain ⟨ys, hys⟩ : ∃ ys, yss[k] = ys := ⟨_, rfl⟩
      rw [hys] at hcell2 hcell3 hci hCi2 hstep
      obtain ⟨m, hmm⟩ : ∃ m, ys.length = m := ⟨_, rfl⟩
      rw [hmm] at hcell2 hcell3 hci hCi2
      have HST := Lib.hid hstep
      have HCI := Lib.hid hCi2
      have HMM := Lib.hid hmm
      have HFL := Lib.hid hfl
      clear hR hbl H hcell hadb hci hCi hCi2 hstep hys hmm hklt hfl
      by_cases h20 : 19 < k
      · have h20' : (19 : Int) < (k : Int) := by omega
        clear hk20
        go_wp2_with fail
        refine HAW.out.mono ?_
        rintro e w1 ⟨rfl, hb1⟩
        have HB := Lib.hid (HBL.out.trans (Below.mono hb1 HBL.out.size))
        clear hb1 HAW
        go_wp2
        go_ret
        exact ⟨rfl, HB.out⟩
      · have h20' : ¬ ((19 : Int) < (k : Int)) := by omega
        have h20d : decide ((19 : Int) < (k : Int)) = false := decide_eq_false h20'
        by_cases h90 : 90 < m
        · have h90' : (90 : Int) < (m : Int) := by omega
          go_wp2_with fail
          refine HAW.out.mono ?_
          rintro e w1 ⟨rfl, hb1⟩
          have HB := Lib.hid (HBL.out.trans (Below.mono hb1 HBL.out.size))
          clear hb1 HAW
          go_wp2
          go_ret
          exact ⟨rfl, HB.out⟩
        · have h90' : ¬ ((90 : Int) < (m : Int)) := by omega
          have h90d : decide ((90 : Int) < (m : Int)) = false := decide_eq_false h90'
          obtain ⟨pre, hpre⟩ : ∃ p, (yss.take k).flatten = p := ⟨_, rfl⟩
          rw [hpre] at HRV HFL HST
          have HLE := Lib.hid (show pre.length + m ≤ 100000 by have := HFL.out; omega)
          clear HAW hpre
          go_wp2_with ((with_reducible refine gate_builtin (b := .append) (xs := #[.tmp 22, .tmp 23]) rfl ?_); at_builtin; refine Kd.R_append_rows (Kd.int .u8) (w0 := w) w.heap.size rfl (.tmp 22) (.tmp 23) 27 5 (.int .u8 0) 1 rfl Tryd.underlying27 info5 rfl (by decide) (by omega) _ pre ys _ _ _ (fun _ => True) (fun _ => False) rfl rfl ?aO ?aR (fun _ _ h => h) (fun _ h => h.elim) ?aF ?aB ?aS ?aL ?_; (case aR => exact HCI.out); (case aB => exact HBL.out); (case aF => exact (fun _ _ => trivial)); (case aO => exact HRV.out); (case aS => exact HBL.out.size); (case aL => have := HLE.out; omega); intro v103 w3 ho hb hg hat; have HV3 := Lib.hid ho; have HB3 := Lib.hid hb; clear ho hb hg hat)
          clear h90' h90d h20' h20d hcell2 hcell3
          go_wp2
          go_roundw
          case rel => exact ⟨k + 1, by omega, by omega, by go_num, Lib.hid ⟨by rw [HST.out]; exact HV3.out, HB3.out, by rw [HST.out, List.length_append, HMM.out]; have := HFL.out; omega⟩⟩
          case measure => simp only [intOf]; omega
    · obtain rfl : k = n := by omega
      have hfl2 : (yss.take k).flatten = yss.flatten := by rw [List.take_of_length_le (by rw [HN.out]; omega)]
      rw [hfl2] at hR hfl
      obtain ⟨A2, c2, hv, hc2, hC2⟩ := Kd.R_reads hR
      subst hv
      have hfb : ∀ x ∈ yss.flatten, 0 ≤ x ∧ x < 256 := by
        intro x hx
        obtain ⟨ys, h1, h2⟩ := List.mem_flatten.1 hx
        exact HY.out ys h1 x h2
      have HS1 := Lib.hid (show ∀ V : World, Below w.heap.size w V → Calls Tryd.prog 12 #[.slice A k c] V fun e w' => e = .returned (.agg (nums .u8 (sumP yss.flatten)).toArray) ∧ Below V.heap.size V w' from fun V hV => sums_calls A k c yss V HN.out (Kd.C_below HR.out hV) HY.out (by omega) (by omega) (HK.out.below hV (Nat.le_refl _)))
      have HT1 := Lib.hid (show ∀ V : World, Below w.heap.size w V → Calls Tryd.prog 18 #[.slice A k c] V fun e w' => e = .returned (.agg (nums .u8 (twiceP yss.flatten)).toArray) ∧ Below V.heap.size V w' from fun V hV => twice_calls A k c yss V HN.out (Kd.C_below HR.out hV) HY.out (by omega) (by omega) (HK.out.below hV (Nat.le_refl _)))
      have HS2 := Lib.hid (show ∀ (V : World), Below w.heap.size w V → Below wr.heap.size wr V → Calls Tryd.prog 12 #[.slice (some ⟨V.heap.size, 0, none⟩) 1 1] (V.alloc (.cells #[.slice A2 yss.flatten.length c2] 27)) fun e w' => e = .returned (.agg (nums .u8 (sumP yss.flatten)).toArray) ∧ Below (V.alloc (.cells #[.slice A2 yss.flatten.length c2] 27)).heap.size (V.alloc (.cells #[.slice A2 yss.flatten.length c2] 27)) w' from fun V hV hV2 => by
        have h := sums_calls (some ⟨V.heap.size, 0, none⟩) 1 1 [yss.flatten] (V.alloc (.cells #[.slice A2 yss.flatten.length c2] 27)) rfl (C_one (heap_alloc_new V _) hc2 (Kd.C_below (Kd.C_below hC2 hV2) (below_alloc (Below.refl _ _) _))) (by simpa using hfb) (by simp; simp at hfl; omega) (by decide) (HK.out.below (hV.alloc hV.size _) (Nat.le_refl _))
        rwa [show [yss.flatten].flatten = yss.flatten by simp] at h)
      have HT2 := Lib.hid (show ∀ (V : World), Below w.heap.size w V → Below wr.heap.size wr V → Calls Tryd.prog 18 #[.slice (some ⟨V.heap.size, 0, none⟩) 1 1] (V.alloc (.cells #[.slice A2 yss.flatten.length c2] 27)) fun e w' => e = .returned (.agg (nums .u8 (twiceP yss.flatten)).toArray) ∧ Below (V.alloc (.cells #[.slice A2 yss.flatten.length c2] 27)).heap.size (V.alloc (.cells #[.slice A2 yss.flatten.length c2] 27)) w' from fun V hV hV2 => by
        have h := twice_calls (some ⟨V.heap.size, 0, none⟩) 1 1 [yss.flatten] (V.alloc (.cells #[.slice A2 yss.flatten.length c2] 27)) rfl (C_one (heap_alloc_new V _) hc2 (Kd.C_below (Kd.C_below hC2 hV2) (below_alloc (Below.refl _ _) _))) (by simpa using hfb) (by simp; simp at hfl; omega) (by decide) (HK.out.below (hV.alloc hV.size _) (Nat.le_refl _))
        rwa [show [yss.flatten].flatten = yss.flatten by simp] at h)
      have q1 := eq32_same (sumP yss.flatten) (sumP_len _)
      have q2 := eq32_same (twiceP yss.flatten) (sumP_len _)
      obtain ⟨R1, hR1⟩ : ∃ R, (nums .u8 (sumP yss.flatten)).toArray = R := ⟨_, rfl⟩
      rw [hR1] at HS1 HS2 q1
      obtain ⟨R2, hR2⟩ : ∃ R, (nums .u8 (twiceP yss.flatten)).toArray = R := ⟨_, rfl⟩
      rw [hR2] at HT1 HT2 q2
      obtain ⟨N0, hN0⟩ : ∃ l, yss.flatten.length = l := ⟨_, rfl⟩
      rw [hN0] at HS2 HT2 ⊢
      clear hR hbl H hfl hC2 hc2 hfb hR1 hR2 hN0 hfl2 hlt hk HAW HRV
      go_wp2_with fail
      refine (HS1.out _ HBL.out).mono ?_
      rintro e w1 ⟨rfl, hb1⟩
      have HA1 := Lib.hid (HBL.out.trans (Below.mono hb1 HBL.out.size))
      have HC1 := Lib.hid hb1
      clear hb1
      go_wp2_with fail
      refine (HS2.out w1 HA1.out HC1.out).mono ?_
      rintro e w2 ⟨rfl, hb2⟩
      have HA2 := Lib.hid ((HA1.out.alloc HA1.out.size _).trans (Below.mono hb2 (HA1.out.alloc HA1.out.size _).size))
      have HC2 := Lib.hid ((HC1.out.alloc HC1.out.size _).trans (Below.mono hb2 (HC1.out.alloc HC1.out.size _).size))
      clear hb2
      go_wp2_with fail
      refine (HT1.out _ HA2.out).mono ?_
      rintro e w3 ⟨rfl, hb3⟩
      have HA3 := Lib.hid (HA2.out.trans (Below.mono hb3 HA2.out.size))
      have HC3 := Lib.hid (HC2.out.trans (Below.mono hb3 HC2.out.size))
      clear hb3
      go_wp2_with fail
      refine (HT2.out w3 HA3.out HC3.out).mono ?_
      rintro e w4 ⟨rfl, hb4⟩
      have HA4 := Lib.hid ((HA3.out.alloc HA3.out.size _).trans (Below.mono hb4 (HA3.out.alloc HA3.out.size _).size))
      clear hb4
      go_wp2_with fail
      refine (awake_calls _ (HK.out.below HA4.out (Nat.le_refl _))).mono ?_
      rintro e w5 ⟨rfl, hb5⟩
      have HA5 := Lib.hid (HA4.out.trans (Below.mono hb5 HA4.out.size))
      clear hb5 q1 q2
      go_wp2
      go_ret
      exact ⟨rfl, HA5.out⟩
end Go.Proofs.YtacebcmgdcmmpaaDoor.Hand
