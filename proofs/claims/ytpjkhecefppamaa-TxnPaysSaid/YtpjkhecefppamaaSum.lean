/- A transaction's Sum: walked. -/
import Derived.Test.YtpjkhecefppamaaProg
import Derived.Below
import Derived.Deep.Draws
import Derived.Deep.AppendLies
import Derived.Maps.AppendAt
import Derived.OwnWalk
import Derived.Laws.BytesArg
import Derived.Laws.MakeOwn
import Derived.Laws.OwnMore
import Derived.Deep.OwnRows
import Derived.Tactics
import Derived.Lib.ConvBytes
import Derived.Laws.Slices
import Derived.WalkKit
import Derived.KernelRfl
import Derived.RowKit3
import Derived.Deep.LoopGhost
import Derived.Deep.QuietTactic
import Derived.BigQuiet
import Derived.WideLaws
import Derived.Deep.DeepCutAuto
import Derived.Deep.CutBlock
import Derived.Deep.RegionHeld3
import Derived.Laws.Rows
import Derived.Lib.AppendStr
import Derived.ArgAppend
import Derived.Laws.IdiomCopy
import Derived.OrdersHeld
import Derived.Laws.BitsLemmas
import Derived.RowKit
import Derived.StillTailTactics
import Derived.Test.YtpjkhecefppamaaWWords
import Derived.Test.YtpjkhecefppamaaWLast
import Derived.Test.YtpjkhecefppamaaWMore
import Derived.Lib.Hide
import Derived.Outline
import Derived.Laws.Externs
import Derived.Test.YtpjkhecefppamaaPaysPlain
namespace Go.Proofs.Ytpjkhecefppamaa.Hand
open Go Go.RowKit Go.Proofs.Ytpjkhecefppamaa.Plain Go.Proofs.Ytpjkhecefppamaa.PAll Go.Proofs.YtpjkhecefppamaaW.PrintWords Go.Proofs.YtpjkhecefppamaaW.PrintLast Go.Proofs.YtpjkhecefppamaaW.PrintMore
set_option linter.unusedVariables false
set_option linter.unusedSimpArgs false
theorem add64_run (x y : Int) (hx : 0 ≤ x) (hy : 0 ≤ y) (w : World) :
    (callFunc 20 #[.int .u64 x, .int .u64 y, .int .u64 0]).run Try.prog w = .ok (.value (.tuple #[.int .u64 ((x + y) % 18446744073709551616), .int .u64 ((x + y) / 18446744073709551616)])) w := by
  rw [run_callFunc_extern Try.func20 (by kernel_rfl) (by kernel_rfl) (by kernel_rfl) (e := add64Entry) (by kernel_rfl), run_add64 x y 0 hx hy (by decide) (by decide)]
  simp only [Result.andThen, Int.add_zero]
/-- How much, if it fits. -/
def sumV (t : Int) : Int := if t < 18446744073709551616 then t else 0
def sumB (t : Int) : Bool := decide (t < 18446744073709551616)
set_option maxHeartbeats 4000000 in
set_option maxRecDepth 100000 in
theorem tsum_calls (salt : Int) (A : Option Addr) (c : Nat) (outs : List OutT) (AI : Option Addr) (cI : Nat) (item : List Int) (w : World) (hr : Kd.C k54 w A outs.length outs) (hc : outs.length ≤ c) (hv : ∀ o ∈ outs, 0 ≤ o.f0 ∧ o.f0 < 18446744073709551616) (hm : outs.length ≤ 1000000) (hri : Kd.C (Kd.int .u8) w AI item.length item) (hci : item.length ≤ cI) :
    Calls Try.prog 10 #[.agg #[.int .u64 salt, .slice A outs.length c], .slice AI item.length cI] w fun e w' => e = .returned (.tuple #[.int .u64 (sumV (sumL item outs)), .bool (sumB (sumL item outs))]) ∧ Below w.heap.size w w' := by
  have HR := Lib.hid hr
  have HC := Lib.hid hc
  have HRI := Lib.hid hri
  have HCI := Lib.hid hci
  have HV := Lib.hid hv
  have HL := Lib.hid hm
  obtain ⟨T, hT⟩ : ∃ T, sumL item outs = T := ⟨_, rfl⟩
  obtain ⟨V, hV⟩ : ∃ V, sumV T = V := ⟨_, rfl⟩
  obtain ⟨Bb, hBb⟩ : ∃ Bb, sumB T = Bb := ⟨_, rfl⟩
  rw [hT, hV, hBb]
  have HT := Lib.hid hT
  have HVV := Lib.hid hV
  have HBB := Lib.hid hBb
  obtain ⟨lenI, hlenI⟩ : ∃ n, item.length = n := ⟨_, rfl⟩
  have HLI := Lib.hid hlenI
  rw [hlenI]
  clear hr hc hri hci hv hm hT hV hBb hlenI
  go_enter Try.func10, Try.ntmps10
  go_wp2_with fail
  have HB1 := Lib.hid (below_alloc (Below.refl w.heap.size w) (.cells #[.int .u64 salt, .slice A outs.length c] 25))
  go_loopw [6, 14] (fun s i wr => ∃ k : Int, 0 ≤ k ∧ k ≤ (outs.length : Int) ∧ i = .int .i64 k ∧ ∃ sm : Int, s = .int .u64 sm ∧ Hid (sm = sumL item (outs.take k.toNat) ∧ 0 ≤ sm ∧ sm < 18446744073709551616 ∧ Below w.heap.size w wr)) (fun _ i _ => ((outs.length : Int) - intOf i).toNat)
  case atStart => exact ⟨0, by omega, by omega, rfl, 0, rfl, Lib.hid ⟨by simp [sumL], by decide, by decide, HB1.out⟩⟩
  case round =>
    obtain ⟨k, hk0, hkn, rfl, sm, rfl, H⟩ := hrel
    by_cases hlt : k < (outs.length : Int)
    · obtain ⟨hs, hs0, hs1, hb⟩ := H.out
      obtain ⟨ad, A1, c1, rfl, x0, x1, xl, xC⟩ := at_T54 (Kd.C_below HR.out hb) k hk0 hlt
      obtain ⟨hkn', e⟩ := rd_out hk0 hlt
      have hstep := sumL_step item outs k.toNat hkn'
      have htk := sumL_take item outs (fun o ho => (HV.out o ho).1) (k.toNat + 1)
      have hv0 := HV.out _ (List.getElem_mem hkn')
      rw [← e] at hstep hv0
      rw [show k.toNat + 1 = (k + 1).toNat by omega, HT.out] at htk
      rw [show k.toNat + 1 = (k + 1).toNat by omega, ← hs] at hstep
      have HEQ := Lib.hid (bytes_Equal.calls A1 c1 (rd_T54 outs k).f1 AI cI item (hit item (rd_T54 outs k)) (wr.alloc (.cells #[.int .u64 (rd_T54 outs k).f0, .slice A1 (rd_T54 outs k).f1.length c1] 54)) (Kd.C_below xC (below_alloc (Below.refl _ _) _)) xl (Kd.C_below HRI.out (below_alloc hb _)) HCI.out rfl)
      have HB2 := Lib.hid (below_alloc hb (.cells #[.int .u64 (rd_T54 outs k).f0, .slice A1 (rd_T54 outs k).f1.length c1] 54))
      have hnew : (wr.alloc (.cells #[.int .u64 (rd_T54 outs k).f0, .slice A1 (rd_T54 outs k).f1.length c1] 54)).heap[wr.heap.size]? = some (.cells #[.int .u64 (rd_T54 outs k).f0, .slice A1 (rd_T54 outs k).f1.length c1] 54 (0, 0)) := by simpa using heap_alloc_new wr _
      have HN := Lib.hid (show (wr.alloc (.cells #[.int .u64 (rd_T54 outs k).f0, .slice A1 (rd_T54 outs k).f1.length c1] 54)).cell? ⟨wr.heap.size, 0, none⟩ = some (.int .u64 (rd_T54 outs k).f0) from (blk_cell hnew 0).trans rfl)
      rw [HLI.out] at HEQ
      obtain ⟨v, hvv⟩ : ∃ v, (rd_T54 outs k).f0 = v := ⟨_, rfl⟩
      obtain ⟨l1, hl1⟩ : ∃ l, (rd_T54 outs k).f1.length = l := ⟨_, rfl⟩
      rw [hvv] at hstep hv0
      rw [hvv, hl1] at HEQ HB2 HN
      rw [hvv] at x0
      rw [hl1] at x1
      have wk : wrap64 (k + 1) = k + 1 := wrap64_id (by omega) (by have := HL.out; omega)
      have HLT := Lib.hid hlt
      obtain ⟨S, hS⟩ : ∃ S, sumL item (outs.take (k + 1).toNat) = S := ⟨_, rfl⟩
      rw [hS] at hstep htk
      have HS := Lib.hid hS
      obtain ⟨r, hrr⟩ : ∃ r, hit item (rd_T54 outs k) = r := ⟨_, rfl⟩
      rw [hrr] at HEQ hstep
      clear hs hb xl xC hnew e hkn' hl1 hvv hS hrr H
      cases r with
      | false =>
        rw [if_neg (by decide), Int.add_zero] at hstep
        have HST := Lib.hid hstep
        clear hstep hv0 htk
        go_wp2_with fail
        with_reducible refine HEQ.out.mono ?_
        rintro e w2 ⟨rfl, ⟨nd, rfl⟩⟩
        clear HEQ
        go_wp2
        go_roundw
        case rel => exact ⟨k + 1, by omega, by have := HLT.out; omega, by rw [wk], sm, rfl, Lib.hid ⟨by rw [HS.out, HST.out], hs0, hs1, pw_below_drewN HB2.out nd⟩⟩
        case measure => simp [intOf]; have := HLT.out; omega
      | true =>
        rw [if_pos rfl] at hstep
        have hadd := fun W => add64_run sm v hs0 hv0.1 W
        by_cases hov : sm + v < 18446744073709551616
        · have a1 : (sm + v) % 18446744073709551616 = S := by omega
          have a2 : (sm + v) / 18446744073709551616 = 0 := by omega
          have HST := Lib.hid (show 0 ≤ S ∧ S < 18446744073709551616 by omega)
          simp only [a1, a2] at hadd
          clear hstep hv0 htk a1 a2 hov
          go_wp2_with fail
          with_reducible refine HEQ.out.mono ?_
          rintro e w2 ⟨rfl, ⟨nd, rfl⟩⟩
          have hN := HN.out
          have hN2 : ((wr.alloc (.cells #[.int .u64 v, .slice A1 l1 c1] 54)).drewN nd).cell? ⟨wr.heap.size, 0, none⟩ = some (.int .u64 v) := hN
          clear HEQ hN
          go_wp2
          go_roundw
          case rel => exact ⟨k + 1, by omega, by have := HLT.out; omega, by rw [wk], S, rfl, Lib.hid ⟨HS.out.symm, HST.out.1, HST.out.2, pw_below_drewN HB2.out nd⟩⟩
          case measure => simp [intOf]; have := HLT.out; omega
        · have a2 : (sm + v) / 18446744073709551616 = 1 := by omega
          have hTT : ¬ T < 18446744073709551616 := by omega
          have hV0 : V = 0 := by rw [← HVV.out]; exact if_neg hTT
          have hB0 : Bb = false := by rw [← HBB.out]; exact decide_eq_false hTT
          simp only [a2] at hadd
          clear HVV HBB hstep hv0 htk a2 hov hTT HT
          subst hV0
          subst hB0
          go_wp2_with fail
          with_reducible refine HEQ.out.mono ?_
          rintro e w2 ⟨rfl, ⟨nd, rfl⟩⟩
          have hN := HN.out
          have hN2 : ((wr.alloc (.cells #[.int .u64 v, .slice A1 l1 c1] 54)).drewN nd).cell? ⟨wr.heap.size, 0, none⟩ = some (.int .u64 v) := hN
          clear HEQ hN
          go_wp2
          go_ret2
          exact ⟨rfl, pw_below_drewN HB2.out nd⟩
    · obtain ⟨hs, hs0, hs1, hb⟩ := H.out
      have hkn' : k.toNat = outs.length := by omega
      rw [hkn', List.take_length, HT.out] at hs
      have hV0 : V = sm := by rw [← HVV.out, ← hs]; exact if_pos hs1
      have hB0 : Bb = true := by rw [← HBB.out, ← hs]; exact decide_eq_true hs1
      have HB2 := Lib.hid hb
      clear HVV HBB hs hb H hkn' HT
      subst hV0
      subst hB0
      go_wp2
      go_ret2
      exact ⟨rfl, HB2.out⟩
end Go.Proofs.Ytpjkhecefppamaa.Hand
