/- slices.Concat of bytes: all of them, one behind the other, in new memory. -/
import Derived.Test.YtlmcdkjobdcflaaDoorProg
import Derived.Below
import Derived.Deep.Draws
import Derived.Deep.AppendLies
import Derived.Maps.AppendAt
import Derived.OwnWalk
import Derived.Laws.BytesArg
import Derived.Laws.MakeOwn
import Derived.Laws.OwnMore
import Derived.Deep.OwnRows
import Derived.Tactics
import Derived.Lib.ConvBytes
import Derived.Laws.Slices
import Derived.WalkKit
import Derived.KernelRfl
import Derived.RowKit3
import Derived.Deep.LoopGhost
import Derived.Deep.QuietTactic
import Derived.BigQuiet
import Derived.WideLaws
import Derived.Deep.DeepCutAuto
import Derived.Deep.CutBlock
import Derived.Deep.RegionHeld3
import Derived.Laws.Rows
import Derived.Lib.AppendStr
import Derived.ArgAppend
import Derived.Laws.IdiomCopy
import Derived.OrdersHeld
import Derived.Laws.BitsLemmas
import Derived.RowKit
import Derived.StillTailTactics
import Derived.Test.YtlmcdkjobdcflaaDoorWWords
import Derived.Test.YtlmcdkjobdcflaaDoorWLast
import Derived.Test.YtlmcdkjobdcflaaDoorWMore
import Derived.WalkSpells
import Derived.Lib.Hide
import Derived.Test.YtlmcdkjobdcflaaDoorByteRows
import Derived.Test.YtlmcdkjobdcflaaDoorShaA
import Derived.Test.YtlmcdkjobdcflaaDoorPlain
import Derived.Test.YtlmcdkjobdcflaaDoorWZeros
namespace Go.Proofs.YtlmcdkjobdcflaaDoor.Hand
open Go Go.RowKit Go.Proofs.YtlmcdkjobdcflaaDoor.Plain Go.Proofs.YtlmcdkjobdcflaaDoorW.PrintWords Go.Proofs.YtlmcdkjobdcflaaDoorW.PrintLast Go.Proofs.YtlmcdkjobdcflaaDoorW.PrintMore
set_option linter.unusedVariables false
set_option linter.unusedSimpArgs false
set_option maxHeartbeats 1000000 in
set_option maxRecDepth 100000 in
theorem grow_calls (n : Nat) (w : World) (hn : n < 140737488355328) :
    Calls Tryd.prog 70 #[.slice none 0 0, .int .i64 n] w fun e w' => ∃ v : Value, e = .returned v ∧ Kd.R (Kd.int .u8) 5 w' w.heap.size (fun _ => True) v [] ∧ Below w.heap.size w w' := by
  by_cases h0 : n = 0
  · subst h0
    go_enter Tryd.func70, Tryd.ntmps70
    go_wp2
    go_ret
    exact ⟨_, rfl, Kd.R_nil _ _ _ _ _, Below.refl _ _⟩
  · have f1 : decide (0 < (n : Int)) = true := decide_eq_true (by omega)
    have f2 : decide ((n : Int) < 0) = false := decide_eq_false (by omega)
    have f3 : (0 < n) = True := eq_true (by omega)
    have HWR := Lib.hid (show wrap64 (n : Int) = (n : Int) from wrap64_nat (by omega))
    have f4 : decide (0 < wrap64 (n : Int)) = true := decide_eq_true (by rw [HWR.out]; omega)
    have f5 : (wrap64 (n : Int) ≤ 0) = False := eq_false (by rw [HWR.out]; omega)
    have HN := Lib.hid hn
    have HO : Hid (Kd.R (Kd.int .u8) 5 w w.heap.size (fun _ => True) (.slice none 0 0) []) := Lib.hid (Kd.R_nil _ _ _ _ _)
    clear h0 hn
    go_enter Tryd.func70, Tryd.ntmps70
    go_wp2_with ((with_reducible refine gate_builtin (b := .append) (xs := #[.tmp 20, .tmp 21]) rfl ?_); at_builtin; refine Kd.R_append_zeros (Kd.int .u8) (w0 := w) w.heap.size rfl (.tmp 20) (.tmp 21) 33 3 5 (.int .u8 0) 1 rfl Tryd.underlying33 Tryd.underlying3 info5 rfl (by decide) (by omega) (.slice none 0 0) ([] : List Int) 0 (wrap64 (n : Int)) (fun _ => True) rfl rfl ?aZ ?aF ?aO ?a0 ?aB ?aS ?aL ?_; (case aB => exact Below.refl _ _); (case aF => exact (fun _ _ => trivial)); (case aO => exact HO.out); (case aS => exact Nat.le_refl _); (case a0 => rw [HWR.out]; omega); (case aZ => exact rfl); (case aL => have := HN.out; rw [HWR.out]; simp; omega); intro v103 w3 ho hb hg hat; generalize ([] : List Int) ++ List.replicate (wrap64 (n : Int)).toNat 0 = ys at ho; obtain ⟨A3, c3, rfl⟩ := Kd.R_slice ho; have hRT := Kd.R_take ho (Nat.zero_le _); rw [List.take_zero] at hRT; have n0_ := Lib.hid hb; have n1_ := Lib.hid hRT; clear ho hb hg hat hRT)
    go_ret
    exact ⟨_, rfl, n1_.out, n0_.out⟩
set_option maxHeartbeats 4000000 in
set_option maxRecDepth 100000 in
theorem concat_calls (A : Option Addr) (c : Nat) (xs : List (List Int)) (w : World) (hr : Kd.C (Kd.slice 5 (Kd.int .u8)) w A xs.length xs) (hlen : xs.length ≤ 1000000) (hfl : xs.flatten.length ≤ 1000000) :
    Calls Tryd.prog 64 #[.slice A xs.length c] w fun e w' => ∃ v : Value, e = .returned v ∧ Kd.R (Kd.int .u8) 5 w' w.heap.size (fun _ => True) v xs.flatten ∧ Below w.heap.size w w' := by
  have HR := Lib.hid hr
  have HF := Lib.hid hfl
  clear hr hfl
  go_enter Tryd.func64, Tryd.ntmps64
  go_wp2_with fail
  go_loopw [3, 11] (fun v i wr => ∃ (k : Int), 0 ≤ k ∧ k ≤ (xs.length : Int) ∧ i = .int .i64 k ∧ w = wr ∧ ∃ n : Int, v = .int .i64 n ∧ Hid (n = ((xs.take k.toNat).flatten.length : Nat))) (fun _ i _ => (1000000 - intOf i).toNat)
  case atStart => exact ⟨0, by omega, by omega, rfl, rfl, 0, rfl, Lib.hid (by simp)⟩
  case round =>
    obtain ⟨k, hk0, hkx, rfl, rfl, n, rfl, H⟩ := hrel
    by_cases hlt : k < (xs.length : Int)
    · obtain ⟨ad, A', c', rfl, c0, hl0, hC⟩ := at_row HR.out k hk0 hlt
      have hn := H.out
      have hst := flat_step hk0 hlt
      have hle := flat_take_le xs (k + 1).toNat
      have hF := HF.out
      have hsum : ((xs.take (k + 1).toNat).flatten.length : Int) = n + ((rdR xs k).length : Int) := by rw [hst, List.length_append, hn]; simp
      obtain ⟨m, hm⟩ : ∃ m, (rdR xs k).length = m := ⟨_, rfl⟩
      rw [hm] at c0 hsum
      have hb1 : n + (m : Int) ≤ 1000000 := by omega
      have hb0 : 0 ≤ n := by omega
      have HS := Lib.hid hsum
      have f1 : decide (n + (m : Int) < 0) = false := decide_eq_false (by omega)
      clear hn hst hle hF hsum hC hl0 hm H
      go_wp2
      go_roundw
      case rel => exact ⟨k + 1, by omega, by omega, rfl, by first | trivial | rfl, _, rfl, Lib.hid HS.out.symm⟩
      case measure => simp [intOf]; omega
    · have ek : k.toNat = xs.length := by omega
      have hn := H.out
      rw [ek, List.take_length] at hn
      obtain ⟨N0, hN0⟩ : ∃ N0, xs.flatten.length = N0 := ⟨_, rfl⟩
      rw [hN0] at hn
      subst hn
      have HN0 := Lib.hid (show N0 < 140737488355328 by have := HF.out; omega)
      clear H ek hN0
      go_wp2_with fail
      refine (grow_calls _ _ HN0.out).mono ?_
      rintro e w1 ⟨v, rfl, hv, hb⟩
      have HV := Lib.hid hv
      have HB := Lib.hid hb
      clear hv hb
      go_wp2_with fail
      go_loopw [6, 27] (fun v i wr => ∃ (k : Int), 0 ≤ k ∧ k ≤ (xs.length : Int) ∧ i = .int .i64 k ∧ Hid (Kd.R (Kd.int .u8) 5 wr w.heap.size (fun _ => True) v (xs.take k.toNat).flatten ∧ Below w.heap.size w wr)) (fun _ i _ => (1000000 - intOf i).toNat)
      case atStart => exact ⟨0, by omega, by omega, rfl, Lib.hid ⟨by simpa using HV.out, HB.out⟩⟩
      case round =>
        clear HV HB hlt hk0 hkx
        obtain ⟨k, hk0, hkx, rfl, H⟩ := hrel
        obtain ⟨hv, hb⟩ := H.out
        have HV := Lib.hid hv
        have HB := Lib.hid hb
        clear hv hb H
        by_cases hlt : k < (xs.length : Int)
        · obtain ⟨ad, A', c', rfl, c0, hl0, hC⟩ := at_row (Kd.C_below HR.out HB.out) k hk0 hlt
          have HC := Lib.hid hC
          have hle := flat_take_le xs (k + 1).toNat
          have hst := flat_step hk0 hlt
          have HL := Lib.hid (show (xs.take k.toNat).flatten.length + (rdR xs k).length ≤ 1000000 by have := HF.out; rw [hst, List.length_append] at hle; omega)
          have HST := Lib.hid hst
          clear hC hl0 hle hst
          generalize rdR xs k = ys at c0 HC HL HST
          generalize (xs.take k.toNat).flatten = pre at HV HL HST
          go_wp2_with ((with_reducible refine gate_builtin (b := .append) (xs := #[.tmp 31, .tmp 32]) rfl ?_); at_builtin; refine Kd.R_append_rows (Kd.int .u8) (w0 := w) w.heap.size rfl (.tmp 31) (.tmp 32) 33 5 (.int .u8 0) 1 rfl Tryd.underlying33 info5 rfl (by decide) (by omega) _ pre ys _ _ _ (fun _ => True) (fun _ => False) rfl rfl ?aO ?aR (fun _ _ h => h) (fun _ h => h.elim) ?aF ?aB ?aS ?aL ?_; (case aR => exact HC.out); (case aB => exact HB.out); (case aF => exact (fun _ _ => trivial)); (case aO => exact HV.out); (case aS => exact HB.out.size); (case aL => have := HL.out; omega); intro v103 w3 ho hb hg hat; have HV3 := Lib.hid ho; have HB3 := Lib.hid hb; clear ho hb hg hat)
          go_roundw
          case rel => exact ⟨k + 1, by omega, by omega, rfl, Lib.hid ⟨by rw [HST.out]; exact HV3.out, HB3.out⟩⟩
          case measure => simp [intOf]; omega
        · have ek : k.toNat = xs.length := by omega
          rw [ek, List.take_length] at HV
          go_wp2
          go_ret
          exact ⟨_, rfl, HV.out, HB.out⟩
end Go.Proofs.YtlmcdkjobdcflaaDoor.Hand
