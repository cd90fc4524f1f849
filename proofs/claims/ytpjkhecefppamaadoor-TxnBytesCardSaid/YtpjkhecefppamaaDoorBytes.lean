/- A transaction's Bytes: walked. -/
import Derived.Test.YtpjkhecefppamaaDoorProg
import Derived.Below
import Derived.Deep.Draws
import Derived.Deep.AppendLies
import Derived.Maps.AppendAt
import Derived.OwnWalk
import Derived.Laws.BytesArg
import Derived.Laws.MakeOwn
import Derived.Laws.OwnMore
import Derived.Deep.OwnRows
import Derived.Tactics
import Derived.Lib.ConvBytes
import Derived.Laws.Slices
import Derived.WalkKit
import Derived.KernelRfl
import Derived.RowKit3
import Derived.Deep.LoopGhost
import Derived.Deep.QuietTactic
import Derived.BigQuiet
import Derived.WideLaws
import Derived.Deep.DeepCutAuto
import Derived.Deep.CutBlock
import Derived.Deep.RegionHeld3
import Derived.Laws.Rows
import Derived.Lib.AppendStr
import Derived.ArgAppend
import Derived.Laws.IdiomCopy
import Derived.OrdersHeld
import Derived.Laws.BitsLemmas
import Derived.RowKit
import Derived.StillTailTactics
import Derived.Test.YtpjkhecefppamaaDoorWWords
import Derived.Test.YtpjkhecefppamaaDoorWLast
import Derived.Test.YtpjkhecefppamaaDoorWMore
import Derived.Lib.Hide
import Derived.LaidEql
import Derived.Outline
import Derived.Test.YtpjkhecefppamaaDoorTxA
namespace Go.Proofs.YtpjkhecefppamaaDoor.Hand
open Go Go.RowKit Go.Proofs.YtpjkhecefppamaaDoor.Plain Go.Proofs.YtpjkhecefppamaaDoor.PAll Go.Proofs.YtpjkhecefppamaaDoorW.PrintWords Go.Proofs.YtpjkhecefppamaaDoorW.PrintLast Go.Proofs.YtpjkhecefppamaaDoorW.PrintMore
set_option linter.unusedVariables false
set_option linter.unusedSimpArgs false
set_option maxHeartbeats 4000000 in
set_option maxRecDepth 100000 in
theorem tbytes_calls (salt : Int) (A : Option Addr) (c : Nat) (outs : List OutT) (w : World) (hs : 0 ≤ salt) (hr : Kd.C k46 w A outs.length outs) (hc : outs.length ≤ c) (hv : ∀ o ∈ outs, 0 ≤ o.f0) (hm : outs.length ≤ 9223372036854775807) :
    Calls Tryd.prog 6 #[.agg #[.int .u64 salt, .slice A outs.length c]] w fun e w' => ∃ v, e = .returned (.tuple #[v, .int .i64 (bytesE salt outs)]) ∧ Kd.R (Kd.int .u8) 5 w' w.heap.size (fun _ => True) v (bytesV salt outs) ∧ Below w.heap.size w w' := by
  have HR := Lib.hid hr
  have HC := Lib.hid hc
  by_cases h8 : 8 < outs.length
  · have b1 : decide ((8 : Int) < (outs.length : Int)) = true := decide_eq_true (by omega)
    have hE : bytesE salt outs = 4 := if_pos h8
    have hV : bytesV salt outs = [] := by unfold bytesV; rw [hE]; rfl
    rw [hE, hV]
    clear hr hc hm h8 hE hV hv
    go_enter Tryd.func6, Tryd.ntmps6
    go_wp2
    go_ret2
    exact ⟨_, rfl, Kd.R_nil _ _ _ _ _, below_alloc (Below.refl _ _) _⟩
  · have b1 : decide ((8 : Int) < (outs.length : Int)) = false := decide_eq_false (by omega)
    have HL := Lib.hid (show outs.length ≤ 8 by omega)
    have HS := Lib.hid hs
    have HV := Lib.hid hv
    have hu : IntKind.u64.wrap (outs.length : Int) = (outs.length : Int) := u64w_id (by omega) (by omega)
    obtain ⟨W1, hW1⟩ : ∃ W1, w.alloc (.cells #[.int .u64 salt, .slice A outs.length c] 25) = W1 := ⟨_, rfl⟩
    have HB0 : Hid (Below w.heap.size w W1) := Lib.hid (by rw [← hW1]; exact below_alloc (Below.refl _ _) _)
    have HBOX : Hid (∀ w2, Below W1.heap.size W1 w2 → w2.cell? ⟨w.heap.size, 0, none⟩ = some (.int .u64 salt) ∧ w2.cell? ⟨w.heap.size, 1, none⟩ = some (.slice A outs.length c)) := Lib.hid fun w2 hb => by
      have hnew : W1.heap[w.heap.size]? = some (.cells #[.int .u64 salt, .slice A outs.length c] 25 (0, 0)) := by rw [← hW1]; simpa using heap_alloc_new w _
      have h2 := (hb.block w.heap.size (blk_lt hnew)).trans hnew
      exact ⟨(blk_cell h2 0).trans rfl, (blk_cell h2 1).trans rfl⟩
    have HW1 := Lib.hid hW1
    obtain ⟨E, hE⟩ : ∃ E, bytesE salt outs = E := ⟨_, rfl⟩
    obtain ⟨V, hV⟩ : ∃ V, bytesV salt outs = V := ⟨_, rfl⟩
    rw [hE, hV]
    have HEE := Lib.hid hE
    have HVV : Hid (V = if E = 0 then txB salt outs else []) := Lib.hid (by rw [← hV, ← hE]; rfl)
    clear hr hc hm h8 hs hv hW1 hE hV
    go_enter Tryd.func6, Tryd.ntmps6
    go_wp2_with fail
    rw [HW1.out]
    refine (cnew_calls _).mono ?_
    rintro e w1 ⟨rfl, hw, hb⟩
    have HIS := Lib.hid hw
    have HB1 := Lib.hid hb
    clear hw hb
    go_wp2_with fail
    refine (cnum_int 1 1 (by decide) HIS.out (by decide)).mono ?_
    rintro e w2 ⟨rfl, hw, hb, _⟩
    have HIS2 := Lib.hid hw
    have HB2 := Lib.hid (HB1.out.trans hb)
    clear hw hb HIS HB1
    obtain ⟨y0, y1⟩ := HBOX.out _ HB2.out
    go_wp2_with fail
    refine (cnum_int salt 8 HS.out HIS2.out (by simp [digs_length, wid1])).mono ?_
    rintro e w3 ⟨rfl, hw, hb, _⟩
    have HIS3 := Lib.hid hw
    have HB3 := Lib.hid (HB2.out.trans hb)
    clear hw hb HIS2 HB2 y0 y1
    obtain ⟨y0, y1⟩ := HBOX.out _ HB3.out
    go_wp2_with fail
    refine (cvar_calls outs.length HIS3.out (by simp [digs_length, wid1, wid8])).mono ?_
    rintro e w4 ⟨rfl, hw, hb, _⟩
    have HIS4 : Hid (IsC w4 W1.heap.size W1.heap.size (headB salt outs.length)) := Lib.hid hw
    have HB4 := Lib.hid (HB3.out.trans hb)
    clear hw hb HIS3 HB3 y0 y1
    obtain ⟨y0, y1⟩ := HBOX.out _ HB4.out
    go_wp2_with fail
    clear y0 y1
    go_loopw [27] (fun i wr => ∃ k : Int, 0 ≤ k ∧ k ≤ (outs.length : Int) ∧ i = .int .i64 k ∧ Hid (IsC wr W1.heap.size W1.heap.size (headB salt outs.length ++ (outs.take k.toNat).flatMap outTB) ∧ Below W1.heap.size W1 wr ∧ ∀ o ∈ outs.take k.toNat, o.f1.length ≤ 64)) (fun i _ => ((outs.length : Int) - intOf i).toNat)
    case atStart => exact ⟨0, by omega, by omega, rfl, Lib.hid ⟨by simpa using HIS4.out, HB4.out, by simp⟩⟩
    case round =>
      obtain ⟨k, hk0, hkn, rfl, H⟩ := hrel
      by_cases hlt : k < (outs.length : Int)
      · obtain ⟨hw, hb, hall⟩ := H.out
        have HWB := Lib.hid (HB0.out.trans (Below.mono hb HB0.out.size))
        obtain ⟨ad, A1, c1, rfl, x0, x1, xl, xC⟩ := at_T46 (Kd.C_below HR.out HWB.out) k hk0 hlt
        have HTK := Lib.hid (take_out hk0 hlt)
        have hv0 := HV.out _ (show rd_T46 outs k ∈ outs by obtain ⟨hh, e⟩ := rd_out hk0 hlt; rw [e]; exact List.getElem_mem hh)
        have HLONG := Lib.hid (longs_of hk0 hlt)
        have HALL := Lib.hid (show (rd_T46 outs k).f1.length ≤ 64 → ∀ o ∈ outs.take (k + 1).toNat, o.f1.length ≤ 64 from fun hle o ho => by
          obtain ⟨hh, e⟩ := rd_out hk0 hlt
          rw [show (k + 1).toNat = k.toNat + 1 by omega, List.take_add_one, List.getElem?_eq_getElem hh] at ho
          rcases List.mem_append.mp ho with ho | ho
          · exact hall o ho
          · simp only [Option.toList, List.mem_cons, List.not_mem_nil, or_false] at ho
            rw [ho, ← e]
            exact hle)
        have HLEN := Lib.hid (show ((outs.take k.toNat).flatMap outTB).length ≤ 81 * 8 from by
          have h1 := outsTB_len _ hall
          have h2 : (outs.take k.toNat).length ≤ 8 := by have := HL.out; rw [List.length_take]; omega
          omega)
        have HHD := Lib.hid (headB_len salt outs.length)
        obtain ⟨⟨val, item⟩, hx⟩ : ∃ x, rd_T46 outs k = x := ⟨_, rfl⟩
        rw [hx] at x0 x1 xl xC HTK hv0 HLONG HALL
        simp only at x0 x1 xl xC hv0 HLONG HALL
        by_cases h64 : 64 < item.length
        · have b2 : decide ((64 : Int) < (item.length : Int)) = true := decide_eq_true (by omega)
          have hE : E = 4 := by rw [← HEE.out]; unfold bytesE; rw [if_neg (by have := HL.out; omega), if_pos (HLONG.out h64)]
          have hV : V = [] := by rw [HVV.out, hE]; rfl
          have HB5 := Lib.hid (below_alloc HWB.out (.cells #[.int .u64 val, .slice A1 item.length c1] 46))
          clear hw hb hall hx xl xC H h64 HEE HVV
          subst hE
          subst hV
          go_wp2_with fail
          go_ret2
          exact ⟨_, rfl, Kd.R_nil _ _ _ _ _, HB5.out⟩
        · have b2 : decide ((64 : Int) < (item.length : Int)) = false := decide_eq_false (by omega)
          have HI := Lib.hid (show item.length ≤ 64 by omega)
          have HC1 := Lib.hid (show ∀ W' : World, Below w.heap.size w W' → Kd.C (Kd.int .u8) W' A1 item.length item from by
            obtain ⟨ad', A1', c1', e1, _, x1', _, xC'⟩ := at_T46 HR.out k hk0 hlt
            rw [hx] at x1' xC'
            simp only at x1' xC'
            injection e1 with e1
            subst e1
            have h1 := (HWB.out.cell (World.block_lt_of_cell? w _ x1')).trans x1'
            rw [h1] at x1
            injection x1 with x1
            injection x1 with x1 _ _
            subst x1
            exact fun W' hb => Kd.C_below xC' hb)
          have HXL := Lib.hid xl
          have HISA := Lib.hid (hw.alloc (.cells #[.int .u64 val, .slice A1 item.length c1] 46))
          have HB5 := Lib.hid (below_alloc hb (.cells #[.int .u64 val, .slice A1 item.length c1] 46))
          have HNEW := Lib.hid (show (wr.alloc (.cells #[.int .u64 val, .slice A1 item.length c1] 46)).heap[wr.heap.size]? = some (.cells #[.int .u64 val, .slice A1 item.length c1] 46 (0, 0)) by simpa using heap_alloc_new wr _)
          have HGL := Lib.hid hw.lt
          have HV0 := Lib.hid hv0
          have wk : wrap64 (k + 1) = k + 1 := wrap64_id (by omega) (by have := HL.out; omega)
          have HLT := Lib.hid hlt
          clear hw hb hall hx xl xC H h64 hv0
          go_wp2_with fail
          refine (cnum_int val 8 HV0.out HISA.out (by have := HLEN.out; have := HHD.out; simp only [List.length_append]; omega)).mono ?_
          rintro e w5 ⟨rfl, hw5, hb5, hk5⟩
          have hcell : w5.cell? ⟨wr.heap.size, 1, none⟩ = some (.slice A1 item.length c1) := hk5.cell (a := ⟨wr.heap.size, 1, none⟩) (by have := HGL.out; show wr.heap.size ≠ W1.heap.size; omega) (HISA.out.row HNEW.out (by decide)) ((blk_cell HNEW.out 1).trans rfl)
          have HIS5 := Lib.hid hw5
          have HB6 := Lib.hid (HB5.out.trans hb5)
          clear hw5 hb5 hk5
          go_wp2_with fail
          refine (ctext_calls A1 c1 item HIS5.out (fun W' hb' _ => HC1.out W' (HB0.out.trans (Below.mono (HB6.out.trans hb') HB0.out.size))) HXL.out (by have := HLEN.out; have := HHD.out; have := HI.out; simp only [List.length_append, digs_length, wid8]; omega)).mono ?_
          rintro e w6 ⟨rfl, hw6, hb6, _⟩
          have HIS6 : Hid (IsC w6 W1.heap.size W1.heap.size (headB salt outs.length ++ (outs.take (k + 1).toNat).flatMap outTB)) := Lib.hid (by rw [HTK.out]; simpa [outTB, wid8, List.append_assoc] using hw6)
          have HB7 := Lib.hid (HB6.out.trans hb6)
          clear hw6 hb6 hcell HIS5 HISA
          go_wp2
          go_roundw
          case rel => exact ⟨k + 1, by omega, by have := HLT.out; omega, by rw [wk], Lib.hid ⟨HIS6.out, HB7.out, HALL.out HI.out⟩⟩
          case measure => simp [intOf]; have := HLT.out; omega
      · obtain ⟨hw, hb, hall⟩ := H.out
        have hkn' : k.toNat = outs.length := by omega
        rw [hkn', List.take_length] at hw hall
        have htx : headB salt outs.length ++ outs.flatMap outTB = txB salt outs := rfl
        rw [htx] at hw
        have HWB := Lib.hid (HB0.out.trans (Below.mono hb HB0.out.size))
        have HLEN := Lib.hid (show (txB salt outs).length ≤ 1000 from by
          have h1 := outsTB_len _ hall
          have h2 := headB_len salt outs.length
          have h3 := HL.out
          simp only [txB, List.length_append]
          omega)
        have hE : E = if (txB salt outs).length = 64 then 3 else 0 := by rw [← HEE.out]; unfold bytesE; rw [if_neg (by have := HL.out; omega), longs_not hall]; rfl
        have HIS6 := Lib.hid hw
        have HE := Lib.hid hE
        clear hw hb hall htx hkn' H hE
        go_wp2_with fail
        refine (clen_calls HIS6.out).mono ?_
        rintro e w5 ⟨rfl, rfl⟩
        by_cases h64 : (txB salt outs).length = 64
        · have hE : E = 3 := by rw [HE.out, if_pos h64]
          have hV : V = [] := by rw [HVV.out, hE]; rfl
          rw [h64]
          clear HE h64 HEE HVV
          subst hE
          subst hV
          go_wp2
          go_ret2
          exact ⟨_, rfl, Kd.R_nil _ _ _ _ _, HWB.out⟩
        · have hE : E = 0 := by rw [HE.out, if_neg h64]
          have hV : V = txB salt outs := by rw [HVV.out, if_pos hE]
          have b2 : (((txB salt outs).length : Int) = 64) = False := eq_false (by omega)
          have b3 : (((txB salt outs).length : Int) == 64) = false := by simp; omega
          have HBY := Lib.hid (cbytes_calls HIS6.out (by have := HLEN.out; omega))
          obtain ⟨L, hL⟩ : ∃ L, (txB salt outs).length = L := ⟨_, rfl⟩
          rw [hL] at b2 b3 ⊢
          clear HE h64 hL HEE HVV
          subst hE
          subst hV
          go_wp2_with fail
          refine HBY.out.mono ?_
          rintro e w6 ⟨v, rfl, hv6, hb6⟩
          have HV6 := Lib.hid hv6
          have HB6 := Lib.hid (HWB.out.trans (Below.mono hb6 HWB.out.size))
          clear hv6 hb6
          go_wp2
          go_ret2
          exact ⟨v, rfl, Kd.R_lower HV6.out HWB.out.size, HB6.out⟩
theorem awake_e : bytesE 5 [] = 0 := by decide +kernel
theorem awake_v : (strOfNums (bytesV 5 [])).toList = ([1, 5, 0, 0, 0, 0, 0, 0, 0, 0] : List UInt8) := by decide +kernel
set_option maxHeartbeats 1000000 in
set_option maxRecDepth 100000 in
theorem awake_calls (w : World) : Calls Tryd.prog 5 #[] w fun e w' => e = .returned (.bool true) ∧ Below w.heap.size w w' := by
  have HT := Lib.hid (tbytes_calls 5 none 0 [] w (by decide) ⟨rfl, by decide, fun h => absurd h (by decide)⟩ (by decide) (by simp) (by decide))
  rw [awake_e] at HT
  go_enter Tryd.func5, Tryd.ntmps5
  go_wp2_with fail
  refine HT.out.mono ?_
  rintro e w1 ⟨v, rfl, hv, hb⟩
  have hcv := own_string (P := Tryd.prog) Tryd.underlying28 Tryd.underlying5 Tryd.underlying9 (Kd.own_of_R hv)
  have ht := beq_iff_eq.mpr awake_v
  generalize hs : strOfNums (bytesV 5 []) = s at hcv ht
  have HB := Lib.hid hb
  clear hb hs hv HT
  go_wp2
  go_ret
  exact ⟨rfl, HB.out⟩
end Go.Proofs.YtpjkhecefppamaaDoor.Hand
