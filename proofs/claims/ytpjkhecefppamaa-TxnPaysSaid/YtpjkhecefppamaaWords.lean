/- The document's Words of few digits: walked. -/
import Derived.Test.YtpjkhecefppamaaProg
import Derived.Below
import Derived.Deep.Draws
import Derived.Deep.AppendLies
import Derived.Maps.AppendAt
import Derived.OwnWalk
import Derived.Laws.BytesArg
import Derived.Laws.MakeOwn
import Derived.Laws.OwnMore
import Derived.Deep.OwnRows
import Derived.Tactics
import Derived.Lib.ConvBytes
import Derived.Laws.Slices
import Derived.WalkKit
import Derived.KernelRfl
import Derived.RowKit3
import Derived.Deep.LoopGhost
import Derived.Deep.QuietTactic
import Derived.BigQuiet
import Derived.WideLaws
import Derived.Deep.DeepCutAuto
import Derived.Deep.CutBlock
import Derived.Deep.RegionHeld3
import Derived.Laws.Rows
import Derived.Lib.AppendStr
import Derived.ArgAppend
import Derived.Laws.IdiomCopy
import Derived.OrdersHeld
import Derived.Laws.BitsLemmas
import Derived.RowKit
import Derived.StillTailTactics
import Derived.Test.YtpjkhecefppamaaWWords
import Derived.Test.YtpjkhecefppamaaWLast
import Derived.Test.YtpjkhecefppamaaWMore
import Derived.Lib.Hide
import Derived.Outline
import Derived.StillTailTactics
import Derived.Test.YtpjkhecefppamaaArrays
import Derived.Test.YtpjkhecefppamaaPaysPlain
namespace Go.Proofs.Ytpjkhecefppamaa.Hand
open Go Go.RowKit Go.Proofs.Ytpjkhecefppamaa.Plain Go.Proofs.Ytpjkhecefppamaa.PAll Go.Proofs.YtpjkhecefppamaaW.PrintWords Go.Proofs.YtpjkhecefppamaaW.PrintLast Go.Proofs.YtpjkhecefppamaaW.PrintMore
set_option linter.unusedVariables false
set_option linter.unusedSimpArgs false
theorem dv_u64 {l : List Int} (h : Dg l) (hl : l.length ≤ 4) : 0 ≤ dv l ∧ dv l < 18446744073709551616 := by
  refine ⟨dv_nonneg l h, ?_⟩
  have h1 := dv_lt l h
  have h2 : (65536 : Int) ^ l.length ≤ 65536 ^ 4 := pow_up (Nat.pow_le_pow_right (by decide) hl)
  omega
theorem Dg.drop {l : List Int} (h : Dg l) (n : Nat) : Dg (l.drop n) := fun d hd => h d (List.mem_of_mem_drop hd)
set_option maxHeartbeats 4000000 in
set_option maxRecDepth 100000 in
theorem words_calls (A : Option Addr) (c : Nat) (l : List Int) (w : World) (hr : Kd.C (Kd.int .i64) w A l.length l) (hc : l.length ≤ c) (hd : Dg l) (hl : l.length ≤ 4) :
    Calls Try.prog 12 #[.slice A l.length c] w fun e w' => e = .returned (.agg #[.int .u64 (dv l), .int .u64 0, .int .u64 0, .int .u64 0]) ∧ Below w.heap.size w w' := by
  have HR := Lib.hid hr
  have HD := Lib.hid hd
  have HL := Lib.hid hl
  obtain ⟨V, hV⟩ : ∃ V, dv l = V := ⟨_, rfl⟩
  rw [hV]
  have HV := Lib.hid hV
  obtain ⟨n, hn⟩ : ∃ n, l.length = n := ⟨_, rfl⟩
  rw [hn]
  have HN := Lib.hid hn
  have hn4 : n ≤ 4 := by omega
  have wn : wrap64 ((n : Int) - 1) = (n : Int) - 1 := wrap64_id (by omega) (by omega)
  clear hr hd hl hV hn hc
  go_enter Try.func12, Try.ntmps12
  go_wp2_with fail
  have hO := heap_alloc_new (w.alloc (.cells #[.int .u64 0, .int .u64 0, .int .u64 0, .int .u64 0] 40)) (.cells #[.int .u64 0, .int .u64 0, .int .u64 0, .int .u64 0] 40)
  rw [World.size_alloc] at hO
  have hRs := blk_alloc (show (w.alloc (.cells #[.int .u64 0, .int .u64 0, .int .u64 0, .int .u64 0] 40)).heap[w.heap.size]? = some (.cells #[.int .u64 0, .int .u64 0, .int .u64 0, .int .u64 0] 40 (0, 0)) by simpa using heap_alloc_new w _) (.cells #[.int .u64 0, .int .u64 0, .int .u64 0, .int .u64 0] 40)
  have HO := Lib.hid hO
  have HRS := Lib.hid hRs
  have HB := Lib.hid (below_alloc (below_alloc (Below.refl w.heap.size w) (.cells #[.int .u64 0, .int .u64 0, .int .u64 0, .int .u64 0] 40)) (.cells #[.int .u64 0, .int .u64 0, .int .u64 0, .int .u64 0] 40))
  clear hO hRs
  obtain ⟨bO, hbO⟩ : ∃ b, w.heap.size + 1 = b := ⟨_, rfl⟩
  rw [hbO] at HO ⊢
  have HBO := Lib.hid (show w.heap.size ≤ bO ∧ w.heap.size ≠ bO by omega)
  clear hbO
  go_loopw [4] (fun i wr => ∃ k : Int, 0 ≤ k ∧ k ≤ (n : Int) ∧ i = .int .i64 (k - 1) ∧ Hid (wr.heap[bO]? = some (.cells #[.int .u64 (dv (l.drop k.toNat)), .int .u64 0, .int .u64 0, .int .u64 0] 40 (0, 0)) ∧ wr.heap[w.heap.size]? = some (.cells #[.int .u64 0, .int .u64 0, .int .u64 0, .int .u64 0] 40 (0, 0)) ∧ Below w.heap.size w wr)) (fun i _ => (intOf i + 1).toNat)
  case atStart => exact ⟨n, by omega, by omega, rfl, Lib.hid ⟨by rw [Int.toNat_natCast, ← HN.out, List.drop_length]; exact HO.out, HRS.out, HB.out⟩⟩
  case round =>
    obtain ⟨k, hk0, hkn, rfl, H⟩ := hrel
    obtain ⟨j, hj⟩ : ∃ j, k - 1 = j := ⟨_, rfl⟩
    rw [hj]
    by_cases hlt : 0 ≤ j
    · obtain ⟨ho, hrs, hb⟩ := H.out
      have hjl : j.toNat < l.length := by have := HN.out; omega
      have hdd := drop_dv l j.toNat hjl
      rw [show j.toNat + 1 = k.toNat by omega, show ((j.toNat : Nat) : Int) = j by omega] at hdd
      have hrd := rd_dg HD.out j.toNat hjl
      rw [show ((j.toNat : Nat) : Int) = j by omega] at hrd
      have hq0 := dv_u64 (HD.out.drop k.toNat) (by have := HL.out; rw [List.length_drop]; omega)
      have hq1 := dv_u64 (HD.out.drop j.toNat) (by have := HL.out; rw [List.length_drop]; omega)
      obtain ⟨ad, rfl, hcell⟩ := C_cells (Kd.C_below HR.out hb) (by omega)
      have hcj := hcell j.toNat (.int .i64 (rd l j)) (by have e := rd_at l j.toNat hjl; rw [show ((j.toNat : Nat) : Int) = j by omega] at e; rw [e]; simp [nums, hjl])
      have hcj2 : wr.cell? (ad.add (j.toNat * 1)) = some (.int .i64 (rd l j)) := by rw [Nat.mul_one]; exact hcj
      have c0 := blk_cell ho 0
      have f0 := blk_frozen ho 0
      simp only [List.getElem?_toArray, List.getElem?_cons_zero] at c0
      have HSET := Lib.hid (fun u => blk_set ho 0 u)
      have HRS2 := Lib.hid (fun u => (Below.heap_setCell wr ⟨bO, 0, none⟩ u w.heap.size HBO.out.2).trans hrs)
      have HB2 := Lib.hid (fun u => hb.setCell (p := ⟨bO, 0, none⟩) HBO.out.1 u)
      obtain ⟨q, hq⟩ : ∃ q, dv (l.drop k.toNat) = q := ⟨_, rfl⟩
      obtain ⟨a, haa⟩ : ∃ a, rd l j = a := ⟨_, rfl⟩
      obtain ⟨q', hq'⟩ : ∃ q', dv (l.drop j.toNat) = q' := ⟨_, rfl⟩
      rw [hq] at hdd hq0 c0 HSET
      rw [haa] at hdd hrd hcj hcj2
      rw [hq'] at hdd hq1
      have HQ' := Lib.hid hq'
      have e1 : wrap64 (j.tdiv 4) = 0 := by rw [Int.tdiv_eq_ediv_of_nonneg hlt, show j / 4 = 0 by omega]; exact wrap64_id (by decide) (by decide)
      have e2 : IntKind.i64.wrap (j.tdiv 4) = 0 := by rw [Int.tdiv_eq_ediv_of_nonneg hlt, show j / 4 = 0 by omega]; rfl
      have m1 : IntKind.u64.wrap (q * 65536) = q * 65536 := u64w_id (by omega) (by omega)
      have m2 : IntKind.u64.wrap a = a := u64w_id (by omega) (by omega)
      have m3 : IntKind.u64.wrap (q * 65536 + a) = q' := (u64w_id (by omega) (by omega)).trans (by omega)
      have n1 : q * 65536 % 18446744073709551616 = q * 65536 := by omega
      have n2 : a % 18446744073709551616 = a := by omega
      have n3 : (q * 65536 + a) % 18446744073709551616 = q' := by omega
      have d16 : decide (j < 16) = true := decide_eq_true (by omega)
      have p0 : (0 ≤ j) = True := eq_true hlt
      have p1 : (j < (n : Int)) = True := eq_true (by omega)
      have wj : wrap64 (j - 1) = j - 1 := wrap64_id (by omega) (by omega)
      have HJ := Lib.hid (show 0 ≤ j ∧ j ≤ n by omega)
      clear hdd hq0 hq1 hrd hq haa hq' ho hrs hb hcell hjl hj H hlt
      go_wp2_with fail
      go_still_tail 14, (by kernel_rfl)
      change wpList _ _ _ _ _ wr.drew
      go_wp2
      refine ⟨⟨j, HJ.out.1, HJ.out.2, by rw [wj], Lib.hid ⟨?_, (HRS2.out (.int .u64 q') :), below_drew (HB2.out (.int .u64 q'))⟩⟩, ?_⟩
      · rw [HQ'.out]
        exact HSET.out (.int .u64 q')
      · have := HJ.out
        simp only [intOf]
        rw [wj]
        omega
    · obtain ⟨ho, hrs, hb⟩ := H.out
      have hk : k.toNat = 0 := by omega
      rw [hk, List.drop_zero, HV.out] at ho
      have d0 : decide (0 ≤ j) = false := decide_eq_false hlt
      have c0 := blk_cell ho 0
      have c1 := blk_cell ho 1
      have c2 := blk_cell ho 2
      have c3 := blk_cell ho 3
      have r0 := blk_cell hrs 0
      have r1 := blk_cell hrs 1
      have r2 := blk_cell hrs 2
      have r3 := blk_cell hrs 3
      have f0 := blk_frozen hrs 0
      have f1 := blk_frozen hrs 1
      have f2 := blk_frozen hrs 2
      have f3 := blk_frozen hrs 3
      simp only [List.getElem?_toArray, List.getElem?_cons_zero, List.getElem?_cons_succ] at c0 c1 c2 c3 r0 r1 r2 r3
      have HF := Lib.hid (blk_set (blk_set (blk_set (blk_set hrs 0 (.int .u64 V)) 1 (.int .u64 0)) 2 (.int .u64 0)) 3 (.int .u64 0))
      have HB4 := Lib.hid ((((hb.setCell (p := ⟨w.heap.size, 0, none⟩) (Nat.le_refl _) (.int .u64 V)).setCell (p := ⟨w.heap.size, 1, none⟩) (Nat.le_refl _) (.int .u64 0)).setCell (p := ⟨w.heap.size, 2, none⟩) (Nat.le_refl _) (.int .u64 0)).setCell (p := ⟨w.heap.size, 3, none⟩) (Nat.le_refl _) (.int .u64 0))
      clear hlt hj ho hrs hb hk H hk0 hkn
      go_wp2_with fail
      exact bodyPost_ret (results_cell_row rfl _ _ w.heap.size 40 #[.int .u64 V, .int .u64 0, .int .u64 0, .int .u64 0] (0, 0) _ rfl HF.out Try.underlying40 rfl (by kernel_rfl)) rfl ⟨rfl, HB4.out⟩
end Go.Proofs.Ytpjkhecefppamaa.Hand
