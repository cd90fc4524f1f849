/- The law MerkleDepths: walked. -/
import Derived.Test.YtlmcdkjobdcflaaDoorProg
import Derived.Below
import Derived.Deep.Draws
import Derived.Deep.AppendLies
import Derived.Maps.AppendAt
import Derived.OwnWalk
import Derived.Laws.BytesArg
import Derived.Laws.MakeOwn
import Derived.Laws.OwnMore
import Derived.Deep.OwnRows
import Derived.Tactics
import Derived.Lib.ConvBytes
import Derived.Laws.Slices
import Derived.WalkKit
import Derived.KernelRfl
import Derived.RowKit3
import Derived.Deep.LoopGhost
import Derived.Deep.QuietTactic
import Derived.BigQuiet
import Derived.WideLaws
import Derived.Deep.DeepCutAuto
import Derived.Deep.CutBlock
import Derived.Deep.RegionHeld3
import Derived.Laws.Rows
import Derived.Lib.AppendStr
import Derived.ArgAppend
import Derived.Laws.IdiomCopy
import Derived.OrdersHeld
import Derived.Laws.BitsLemmas
import Derived.RowKit
import Derived.StillTailTactics
import Derived.Test.YtlmcdkjobdcflaaDoorWWords
import Derived.Test.YtlmcdkjobdcflaaDoorWLast
import Derived.Test.YtlmcdkjobdcflaaDoorWMore
import Derived.Lib.Hide
import Derived.Outline
import Derived.Deep.MidRow
import Derived.Deep.WholeRow
import Derived.Deep.DrawnRows
import Derived.Test.YtlmcdkjobdcflaaDoorLaws8
namespace Go.Proofs.YtlmcdkjobdcflaaDoor.Hand
open Go Go.RowKit Go.Proofs.YtlmcdkjobdcflaaDoor.Plain Go.Proofs.YtlmcdkjobdcflaaDoor.PAll Go.Proofs.YtlmcdkjobdcflaaDoorW.PrintWords Go.Proofs.YtlmcdkjobdcflaaDoorW.PrintLast Go.Proofs.YtlmcdkjobdcflaaDoorW.PrintMore
set_option linter.unusedVariables false
set_option linter.unusedSimpArgs false
set_option maxRecDepth 100000
theorem zeros_Hs (n : Nat) : Hs (List.replicate n z32h) := by
  intro p hp
  rw [List.eq_of_mem_replicate hp]
  exact z32h_hash
theorem make_zeros (n : Nat) (hn : n ≤ 1000) : ∃ MC : Array Value, (∀ W : World, (Instr.makeSlice 22 (.int .i64 (n : Int)) (.int .i64 (n : Int))).run Tryd.prog W = .ok (.slice (some ⟨W.heap.size, 0, none⟩) n n) (W.alloc (.cells MC 25))) ∧ ∀ W : World, Kd.C kH (W.alloc (.cells MC 25)) (some ⟨W.heap.size, 0, none⟩) n (List.replicate n z32h) := by
  obtain ⟨I, hI, hzz⟩ := Option.map_eq_some_iff.1 infoH3
  simp only [Prod.mk.injEq] at hzz
  have hz : (Value.agg (nums .u8 (List.replicate 32 0)).toArray).cells.size = 32 := by rfl
  refine ⟨madeCells (Value.agg (nums .u8 (List.replicate 32 0)).toArray).cells (n * 32), fun W => ?_, fun W => ?_⟩
  · have h := run_make (P := Tryd.prog) W 22 25 I _ Tryd.underlying22 hI hzz.1 .i64 .i64 (n : Int) (n : Int) (by omega) (by omega) (by rw [hzz.2.2]; omega) (by omega)
    rw [hzz.2.1] at h
    exact h
  · have hr := Kd.reps_made (R := kH.K W) (z := .agg (nums .u8 (List.replicate 32 0)).toArray) (size := 32) (z0 := z32h) hz (by decide) (by
      show kH.K W z32h (nums .u8 (List.replicate 32 0)).toArray.toList
      exact kH_of (by simp [z32h])) n
    have hR : Kd.R kH 25 (W.alloc (.cells (madeCells (Value.agg (nums .u8 (List.replicate 32 0)).toArray).cells (n * 32)) 25)) W.heap.size (fun _ => True) (.slice (some ⟨W.heap.size, 0, none⟩) n n) (List.replicate n z32h) := by
      refine ⟨fun _ _ => trivial, (madeCells (Value.agg (nums .u8 (List.replicate 32 0)).toArray).cells (n * 32)).toList, ?_, hr.imp_ (fun p c hp => (by obtain ⟨q1, rfl⟩ := kH_K hp; exact kH_M q1))⟩
      rw [List.length_replicate]
      exact World.ownsRow_lit W _ n (Nat.le_refl _) (by simp only [maxLen]; omega) (by simp [size_madeCells, kH_sz])
    obtain ⟨_, _, h3⟩ := Kd.R_reads' hR
    rw [List.length_replicate] at h3
    exact h3
theorem depth_pos {n : Nat} (h : 2 ≤ n) : 1 ≤ depthP n := by
  have := (depthP_is n).1
  by_cases h0 : depthP n = 0
  · rw [h0] at this
    omega
  · omega
theorem depth_gt {n : Nat} (h : 2 ≤ n) : 2 ^ (depthP n - 1) < n := (depthP_is n).2 _ (by have := depth_pos h; omega)
set_option maxHeartbeats 4000000 in
theorem depthl_calls (n : Int) (w : World) (h0 : -9223372036854775808 ≤ n) (h1 : n ≤ 9223372036854775807) (hK : KT w) :
    Calls Tryd.prog 7 #[.int .i64 n] w fun e w' => e = .returned (.bool true) ∧ Below w.heap.size w w' := by
  have HAW := Lib.hid (fun (u : World) (hu : Below w.heap.size w u) => awake8_calls u (hK.below hu (Nat.le_refl _)))
  have HD := Lib.hid (fun u => depth_calls n u h0 h1)
  by_cases hn : n < 2
  · have hz : depthP n.toNat = 0 := depthP_small (by omega)
    rw [hz] at HD
    clear hz h0 h1 hK
    go_enter Tryd.func7, Tryd.ntmps7
    go_wp2_with fail
    refine (HD.out _).mono ?_
    rintro e w1 ⟨rfl, rfl⟩
    go_wp2_with fail
    refine (HAW.out _ (Below.refl _ _)).mono ?_
    rintro e w1 ⟨rfl, hb⟩
    go_wp2_with fail
    go_ret
    exact ⟨rfl, hb⟩
  · obtain ⟨m, rfl⟩ : ∃ m : Nat, n = (m : Int) := ⟨n.toNat, by omega⟩
    rw [Int.toNat_natCast] at HD
    have d1 := depth_pos (n := m) (by omega)
    have d2 := depth_gt (n := m) (by omega)
    have d3 := (depthP_is m).1
    have d4 := depth_le (depthP_is m) (m := 63) (by
      have : (2 : Nat) ^ 63 = 9223372036854775808 := by decide
      omega)
    have HW := Lib.hid (depth_wide (depthP_is m))
    obtain ⟨d, hd⟩ : ∃ d, depthP m = d := ⟨_, rfl⟩
    rw [hd] at HD d1 d2 d3 d4 HW
    have hn1 : ¬ (m : Int) < 2 := hn
    have g1 : ¬ (d : Int) < 1 := by omega
    have g2 : ¬ (63 : Int) < (d : Int) := by omega
    have q2 : ¬ (m : Int) ≤ wrap64 (2 ^ (d - 1)) := by
      have h62 : (2 : Nat) ^ (d - 1) ≤ 2 ^ 62 := Nat.pow_le_pow_right (by decide) (by omega)
      have e62 : (2 : Nat) ^ 62 = 4611686018427387904 := by decide
      obtain ⟨P, hP⟩ : ∃ P, 2 ^ (d - 1) = P := ⟨_, rfl⟩
      have hc : ((2 : Int) ^ (d - 1)) = (P : Int) := by rw [← hP]; push_cast; rfl
      rw [hP] at h62 d2
      rw [hc, wrap64_id (by omega) (by omega)]
      omega
    have hG : (d : Int) < 63 ∧ ¬ wrap64 (2 ^ d) < (m : Int) ∨ ¬ (d : Int) < 63 := by
      by_cases hd63 : d < 63
      · refine .inl ⟨by omega, ?_⟩
        have h62 : (2 : Nat) ^ d ≤ 2 ^ 62 := Nat.pow_le_pow_right (by decide) (by omega)
        have e62 : (2 : Nat) ^ 62 = 4611686018427387904 := by decide
        obtain ⟨P, hP⟩ : ∃ P, 2 ^ d = P := ⟨_, rfl⟩
        have hc : ((2 : Int) ^ d) = (P : Int) := by rw [← hP]; push_cast; rfl
        rw [hP] at h62 d3
        rw [hc, wrap64_id (by omega) (by omega)]
        omega
      · exact .inr (by omega)
    clear d2 d3
    by_cases hm : 64 < m
    · have g3 : (64 : Int) < (m : Int) := by omega
      clear hK h0 h1 hd
      rcases hG with ⟨g4, g5⟩ | g4
      · go_enter Tryd.func7, Tryd.ntmps7
        go_wp2_with fail
        refine (HD.out _).mono ?_
        rintro e w1 ⟨rfl, rfl⟩
        go_wp2_with fail
        refine (HAW.out _ (Below.refl _ _)).mono ?_
        rintro e w1 ⟨rfl, hb⟩
        go_wp2_with fail
        go_ret
        exact ⟨rfl, hb⟩
      · go_enter Tryd.func7, Tryd.ntmps7
        go_wp2_with fail
        refine (HD.out _).mono ?_
        rintro e w1 ⟨rfl, rfl⟩
        go_wp2_with fail
        refine (HAW.out _ (Below.refl _ _)).mono ?_
        rintro e w1 ⟨rfl, hb⟩
        go_wp2_with fail
        go_ret
        exact ⟨rfl, hb⟩
    · have g3 : ¬ (64 : Int) < (m : Int) := by omega
      rcases hG with ⟨g4, g5⟩ | g4
      · obtain ⟨MC, hmk, hMC⟩ := make_zeros m (by omega)
        have HMC := Lib.hid hMC
        have hwd : wideP m d = 1 := by
          have := HW.out.1
          have := wideP_pos (n := m) (by omega) d
          omega
        have HWD := Lib.hid hwd
        have HMM := Lib.hid hm
        have HAB := Lib.hid (fun (A : Option Addr) (c k : Nat) (u : World) (hr : Kd.C kH u A (wideP m k) (lev (List.replicate m z32h) k)) (hc : wideP m k ≤ c) (hu : Below w.heap.size w u) => above_calls A (wideP m k) c (lev (List.replicate m z32h) k) u (by rw [lev_len, List.length_replicate]) hr hc (by have := wideP_le m k; omega) (lev_Hs (zeros_Hs m) k) (hK.below hu (Nat.le_refl _)))
        have HLL := Lib.hid (fun k => (show (lev (List.replicate m z32h) k).length = wideP m k by rw [lev_len, List.length_replicate]))
        clear hK h0 h1 hd hMC hwd hm
        go_enter Tryd.func7, Tryd.ntmps7
        go_wp2_with fail
        refine (HD.out _).mono ?_
        rintro e w1 ⟨rfl, rfl⟩
        go_wp2_with fail
        clear hmk
        have HM1 := Lib.hid (HMC.out w1)
        have HB1 := Lib.hid (below_alloc (Below.refl w1.heap.size w1) (.cells MC 25))
        go_loopw [4, 43] (fun v i wr => ∃ k : Nat, k ≤ d ∧ i = .int .i64 (k : Int) ∧ Hid (∃ A c, v = .slice A (wideP m k) c ∧ wideP m k ≤ c ∧ Kd.C kH wr A (wideP m k) (lev (List.replicate m z32h) k) ∧ Below w1.heap.size w1 wr)) (fun _ i _ => (d + 1 - (intOf i).toNat))
        case atStart => exact ⟨0, Nat.zero_le _, rfl, Lib.hid ⟨_, _, rfl, Nat.le_refl _, HM1.out, HB1.out⟩⟩
        case round =>
          obtain ⟨k, hk, rfl, H⟩ := hrel
          obtain ⟨A, c, rfl, hc, hC, hB⟩ := H.out
          have HB := Lib.hid hB
          by_cases hlt : k < d
          · have g6 : (k : Int) < (d : Int) := by omega
            have HAB2 := Lib.hid (HAB.out A c k wr hC hc hB)
            have HK1 := Lib.hid (show k + 1 ≤ d by omega)
            clear hC hc hB H
            go_wp2_with fail
            refine HAB2.out.mono ?_
            rintro e w3 ⟨v, rfl, hv, hb3⟩
            obtain ⟨A3, c3, rfl, hc3, hC3⟩ := Kd.R_reads hv
            have HB3 := Lib.hid (HB.out.trans (Below.mono hb3 HB.out.size))
            have HC3 := Lib.hid (And.intro hc3 hC3)
            clear hv hb3 hc3 hC3
            go_wp2_with fail
            go_roundw
            case rel => exact ⟨k + 1, HK1.out, rfl, Lib.hid ⟨A3, c3, by rw [← HLL.out (k + 1)]; rfl, by rw [← HLL.out (k + 1)]; exact HC3.out.1, by rw [← HLL.out (k + 1)]; exact HC3.out.2, HB3.out⟩⟩
            case measure => simp only [intOf]; omega
          · obtain rfl : k = d := by omega
            have g7 : ((wideP m k : Nat) : Int) = 1 := by have := HWD.out; omega
            clear hC hc hB H
            go_wp2_with fail
            refine (HAW.out _ HB.out).mono ?_
            rintro e w5 ⟨rfl, hb5⟩
            have HB5 := Lib.hid (HB.out.trans (Below.mono hb5 HB.out.size))
            clear hb5
            go_wp2_with fail
            go_ret
            exact ⟨rfl, HB5.out⟩
      · exfalso
        have := (depthP_is m).2 62 (by omega)
        have e62 : (2 : Nat) ^ 62 = 4611686018427387904 := by decide
        omega
end Go.Proofs.YtlmcdkjobdcflaaDoor.Hand
