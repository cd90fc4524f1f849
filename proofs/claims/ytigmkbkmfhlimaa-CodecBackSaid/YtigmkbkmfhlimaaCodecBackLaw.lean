/- CodecBack: walked. -/
import Derived.Test.YtigmkbkmfhlimaaProg
import Derived.Below
import Derived.Deep.Draws
import Derived.Deep.AppendLies
import Derived.Maps.AppendAt
import Derived.OwnWalk
import Derived.Laws.BytesArg
import Derived.Laws.MakeOwn
import Derived.Laws.OwnMore
import Derived.Deep.OwnRows
import Derived.Tactics
import Derived.Lib.ConvBytes
import Derived.Laws.Slices
import Derived.WalkKit
import Derived.KernelRfl
import Derived.RowKit3
import Derived.Deep.LoopGhost
import Derived.Deep.QuietTactic
import Derived.BigQuiet
import Derived.WideLaws
import Derived.Deep.DeepCutAuto
import Derived.Deep.CutBlock
import Derived.Deep.RegionHeld3
import Derived.Laws.Rows
import Derived.Lib.AppendStr
import Derived.ArgAppend
import Derived.Laws.IdiomCopy
import Derived.OrdersHeld
import Derived.Laws.BitsLemmas
import Derived.RowKit
import Derived.StillTailTactics
import Derived.Test.YtigmkbkmfhlimaaWWords
import Derived.Test.YtigmkbkmfhlimaaWLast
import Derived.Test.YtigmkbkmfhlimaaWMore
import Derived.Lib.Hide
import Derived.LaidEql
import Derived.Outline
import Derived.Deep.RegionLaw
import Derived.Deep.RegionHeld3
import Derived.BigRegion
import Derived.Test.YtigmkbkmfhlimaaAwake
import Derived.Test.YtigmkbkmfhlimaaWriter
import Derived.Test.YtigmkbkmfhlimaaReader2
import Derived.Test.YtigmkbkmfhlimaaOpens
import Derived.Test.YtigmkbkmfhlimaaCount
import Derived.Test.YtigmkbkmfhlimaaRefPlain
import Derived.Test.YtigmkbkmfhlimaaCodecOnePlain
import Derived.Deep.DrawnRows
namespace Go.Proofs.Ytigmkbkmfhlimaa.Hand
open Go Go.RowKit Go.Proofs.Ytigmkbkmfhlimaa.Plain Go.Proofs.Ytigmkbkmfhlimaa.PAll Go.Proofs.YtigmkbkmfhlimaaW.PrintWords Go.Proofs.YtigmkbkmfhlimaaW.PrintLast Go.Proofs.YtigmkbkmfhlimaaW.PrintMore
attribute [local go_sem] max2_int min2_int max_two min_two max_three min_three max_four min_four
set_option linter.unusedVariables false
set_option linter.unusedSimpArgs false
attribute [local go_sem ↓] Go.wp_at_zero Go.wp_at_succ
/-- What is put: (N, M, B, C). -/
abbrev PutX := Int × Int × List Int × List Int
def kPut : Kd PutX := Kd.pair (Kd.int .u64) (Kd.pair (Kd.int .u64) (Kd.pair (Kd.slice 5 (Kd.int .u8)) (Kd.slice 5 (Kd.int .u8))))
theorem kPut_open {w : World} {x : PutX} {cs : List Value} (h : kPut.K w x cs) : ∃ A c A2 c2, cs = [.int .u64 x.1, .int .u64 x.2.1, .slice A x.2.2.1.length c, .slice A2 x.2.2.2.length c2] ∧ x.2.2.1.length ≤ c ∧ Kd.C (Kd.int .u8) w A x.2.2.1.length x.2.2.1 ∧ x.2.2.2.length ≤ c2 ∧ Kd.C (Kd.int .u8) w A2 x.2.2.2.length x.2.2.2 := by
  obtain ⟨_, _, rfl, rfl, ⟨_, _, rfl, rfl, ⟨_, _, rfl, ⟨A, c, rfl, hl, hC⟩, ⟨A2, c2, rfl, hl2, hC2⟩⟩⟩⟩ := h
  exact ⟨A, c, A2, c2, rfl, hl, hC, hl2, hC2⟩
theorem takeR_front (pre ys rest : List Int) : takeR (pre ++ (ys ++ rest)) pre.length 0 (ys.length : Int) = (ys, pre.length + ys.length, 0) := by
  unfold takeR
  rw [if_neg (by decide), if_neg (by simp; omega)]
  simp
theorem varR_front (pre rest : List Int) (n : Nat) (hn : n < 18446744073709551616) {most : Int} (hm : (n : Int) ≤ most) : varR (pre ++ (varB n ++ rest)) pre.length 0 most = ((n : Int), pre.length + (varB n).length, 0) := by
  rw [varR_count _ _ (by simp) most, List.drop_left, count_back n hn rest hm]
theorem numR_front (pre rest : List Int) (n : Nat) (hn : n < 18446744073709551616) : numR (pre ++ (digs 8 n ++ rest)) pre.length 0 8 = ((n : Int), pre.length + 8, 0) := by
  unfold numR
  have h := takeR_front pre (digs 8 n) rest
  rw [digs_length] at h
  rw [wid8, h]
  simp only
  rw [val_digs_lt 8 n (by have : 256 ^ 8 = 18446744073709551616 := by decide
                          omega)]
theorem textR_front (pre rest ys : List Int) (hy : ys.length ≤ 300) : textR (pre ++ ((varB ys.length ++ ys) ++ rest)) pre.length 0 300 = (ys, pre.length + (varB ys.length ++ ys).length, 0) := by
  unfold textR
  have em : mx 300 0 = 300 := by decide
  have e1 : pre ++ ((varB ys.length ++ ys) ++ rest) = pre ++ (varB ys.length ++ (ys ++ rest)) := by simp
  rw [em, e1, varR_front pre (ys ++ rest) ys.length (by omega) (by omega)]
  simp only
  have e2 : pre ++ (varB ys.length ++ (ys ++ rest)) = (pre ++ varB ys.length) ++ (ys ++ rest) := by simp
  have h := takeR_front (pre ++ varB ys.length) ys rest
  rw [e2, show pre.length + (varB ys.length).length = (pre ++ varB ys.length).length from by simp, h]
  unfold text2
  simp
  omega
set_option maxHeartbeats 8000000 in
set_option maxRecDepth 100000 in
theorem back_calls (cs : Array Value) (x : PutX) (w : World) (hK : kPut.K w x cs.toList) (hn : 0 ≤ x.1 ∧ x.1 < 18446744073709551616) (hm : 0 ≤ x.2.1 ∧ x.2.1 < 18446744073709551616) (hby : ∀ y ∈ x.2.2.1, 0 ≤ y ∧ y < 256) (hby2 : ∀ y ∈ x.2.2.2, 0 ≤ y ∧ y < 256) :
    Calls Try.prog 7 #[.agg cs] w fun e w' => e = .returned (.bool true) ∧ Below w.heap.size w w' := by
  obtain ⟨n, m, ys, zs⟩ := x
  obtain ⟨A, c, A2, c2, hcs, hl1, hC1, hl2, hC2⟩ := kPut_open hK
  simp only at hcs hl1 hC1 hl2 hC2 hn hm hby hby2
  obtain rfl : cs = #[.int .u64 n, .int .u64 m, .slice A ys.length c, .slice A2 zs.length c2] := by rw [← Array.toList_inj, hcs]
  obtain ⟨n, rfl⟩ := Int.eq_ofNat_of_zero_le hn.1
  obtain ⟨m, rfl⟩ := Int.eq_ofNat_of_zero_le hm.1
  have HN := Lib.hid (show n < 18446744073709551616 by omega)
  have HM := Lib.hid (show m < 18446744073709551616 by omega)
  have HC1 := Lib.hid hC1
  have HC2 := Lib.hid hC2
  have HL1 := Lib.hid hl1
  have HL2 := Lib.hid hl2
  have HBY := Lib.hid hby
  have HBY2 := Lib.hid hby2
  clear hK hcs hl1 hC1 hl2 hC2 hn hm hby hby2
  by_cases h1 : 300 < ys.length
  · have f1 : decide (300 < (ys.length : Int)) = true := decide_eq_true (by omega)
    clear h1
    go_enter Try.func7, Try.ntmps7
    go_wp2_with fail
    go_quiet (fail)
    generalize hq : World.drewN _ nq = wq at *
    have HB0 := Lib.hid (show Below w.heap.size w wq by rw [← hq]; exact pw_below_drewN (below_alloc (Below.refl _ _) _) nq)
    clear hq
    go_wp2_with fail
    refine (cnew_calls _).mono ?_
    rintro e w1 ⟨rfl, hw, hb⟩
    have HW1 := Lib.hid hw
    have HB1 := Lib.hid (HB0.out.trans (Below.mono hb HB0.out.size))
    have HSZ := Lib.hid HB0.out.size
    clear hw hb
    generalize wq.heap.size = g at *
    go_wp2_with fail
    refine (awake_calls _).mono ?_
    rintro e w9 ⟨rfl, hb9⟩
    have HB9 := Lib.hid (HB1.out.trans (Below.mono hb9 HB1.out.size))
    clear hb9
    go_wp2
    go_ret
    exact ⟨rfl, HB9.out⟩
  · have f1 : decide (300 < (ys.length : Int)) = false := decide_eq_false (by omega)
    have HY := Lib.hid (show ys.length ≤ 300 by omega)
    clear h1
    by_cases h2 : 300 < zs.length
    · have f2 : decide (300 < (zs.length : Int)) = true := decide_eq_true (by omega)
      clear h2
      go_enter Try.func7, Try.ntmps7
      go_wp2_with fail
      go_quiet (fail)
      generalize hq : World.drewN _ nq = wq at *
      have HB0 := Lib.hid (show Below w.heap.size w wq by rw [← hq]; exact pw_below_drewN (below_alloc (Below.refl _ _) _) nq)
      clear hq
      go_wp2_with fail
      refine (cnew_calls _).mono ?_
      rintro e w1 ⟨rfl, hw, hb⟩
      have HW1 := Lib.hid hw
      have HB1 := Lib.hid (HB0.out.trans (Below.mono hb HB0.out.size))
      have HSZ := Lib.hid HB0.out.size
      clear hw hb
      generalize wq.heap.size = g at *
      go_wp2_with fail
      refine (awake_calls _).mono ?_
      rintro e w9 ⟨rfl, hb9⟩
      have HB9 := Lib.hid (HB1.out.trans (Below.mono hb9 HB1.out.size))
      clear hb9
      go_wp2
      go_ret
      exact ⟨rfl, HB9.out⟩
    · have f2 : decide (300 < (zs.length : Int)) = false := decide_eq_false (by omega)
      have HZ := Lib.hid (show zs.length ≤ 300 by omega)
      clear h2
      have hv1 := varB_length n
      have hv2 := varB_length m
      have hv3 := varB_length ys.length
      have HV := Lib.hid (And.intro hv1 (And.intro hv2 hv3))
      clear hv1 hv2 hv3
      obtain ⟨p1, hp1⟩ : ∃ l, [] ++ varB n = l := ⟨_, rfl⟩
      obtain ⟨p2, hp2⟩ : ∃ l, p1 ++ (varB ys.length ++ ys) = l := ⟨_, rfl⟩
      obtain ⟨p3, hp3⟩ : ∃ l, p2 ++ digs (wid 8) m = l := ⟨_, rfl⟩
      obtain ⟨p4, hp4⟩ : ∃ l, p3 ++ varB m = l := ⟨_, rfl⟩
      obtain ⟨all, hall⟩ : ∃ l, p4 ++ [zs].flatten = l := ⟨_, rfl⟩
      have hz1 : [zs].flatten = zs := by simp
      have hw8 := wid8
      have hlen : p1.length ≤ 9 ∧ p2.length ≤ 320 ∧ p3.length ≤ 330 ∧ p4.length ≤ 340 ∧ all.length ≤ 640 := by
        have := HV.out
        have := HY.out
        have := HZ.out
        subst hp1 hp2 hp3 hp4 hall
        simp only [List.length_append, hz1, digs_length, wid8, List.length_nil]
        omega
      have HLN := Lib.hid hlen
      have hbyt : ∀ y ∈ all, 0 ≤ y ∧ y < 256 := by
        subst hp1 hp2 hp3 hp4 hall
        intro y hy
        simp only [List.nil_append, hz1, List.mem_append] at hy
        rcases hy with (((hy | (hy | hy)) | hy) | hy) | hy
        · exact varB_bytes _ y hy
        · exact varB_bytes _ y hy
        · exact HBY.out y hy
        · exact digs_bytes _ _ y hy
        · exact varB_bytes _ y hy
        · exact HBY2.out y hy
      have HBA := Lib.hid hbyt
      have e0 : all = [] ++ (varB n ++ ((varB ys.length ++ ys) ++ (digs 8 m ++ (varB m ++ (zs ++ []))))) := by subst hp1 hp2 hp3 hp4 hall; rw [hz1, wid8]; simp
      have t0 := varR_front [] ((varB ys.length ++ ys) ++ (digs 8 m ++ (varB m ++ (zs ++ [])))) n HN.out (most := (n : Int)) (Int.le_refl _)
      rw [← e0] at t0
      have e1 : all = p1 ++ ((varB ys.length ++ ys) ++ (digs 8 m ++ (varB m ++ (zs ++ [])))) := by rw [e0]; subst hp1; simp
      have t1 := textR_front p1 (digs 8 m ++ (varB m ++ (zs ++ []))) ys HY.out
      rw [← e1] at t1
      have e2 : all = p2 ++ (digs 8 m ++ (varB m ++ (zs ++ []))) := by rw [e1]; subst hp2; simp
      have t2 := numR_front p2 (varB m ++ (zs ++ [])) m HM.out
      rw [← e2] at t2
      have e3 : all = p3 ++ (varB m ++ (zs ++ [])) := by rw [e2]; subst hp3; rw [wid8]; simp
      have t3 := varR_front p3 (zs ++ []) m HM.out (most := 18446744073709551615) (by have := HM.out; omega)
      rw [← e3] at t3
      have e4 : all = p4 ++ (zs ++ []) := by rw [e3]; subst hp4; simp
      have t4 := takeR_front p4 zs []
      rw [← e4] at t4
      have hl1 : p1.length = (varB n).length := by subst hp1; simp
      have hl2 : p2.length = p1.length + (varB ys.length ++ ys).length := by subst hp2; simp
      have hl3 : p3.length = p2.length + 8 := by subst hp3; rw [List.length_append, digs_length, wid8]
      have hl4 : p4.length = p3.length + (varB m).length := by subst hp4; simp
      have hl5 : all.length = p4.length + zs.length := by rw [e4]; simp
      simp only [List.length_nil, Nat.zero_add] at t0
      rw [← hl1] at t0
      rw [← hl2] at t1
      rw [← hl3] at t2
      rw [← hl4] at t3
      rw [← hl5] at t4
      have T0 := Lib.hid t0
      have T1 := Lib.hid t1
      have T2 := Lib.hid t2
      have T3 := Lib.hid t3
      have T4 := Lib.hid t4
      have P1 := Lib.hid hp1
      have P2 := Lib.hid hp2
      have P3 := Lib.hid hp3
      have P4 := Lib.hid hp4
      have PA := Lib.hid hall
      have HPL := Lib.hid (show p1.length ≤ all.length ∧ p2.length ≤ all.length ∧ p3.length ≤ all.length ∧ p4.length ≤ all.length by omega)
      have he0 : endR all all.length 0 = 0 := by unfold endR; rw [if_neg (by omega)]
      have HE := Lib.hid he0
      have hzz : (all.length : Int) - ((all.length : Nat) : Int) = 0 := by omega
      have HZZ := Lib.hid hzz
      obtain ⟨TY, hTY⟩ : ∃ T, strOfNums ys = T := ⟨_, rfl⟩
      obtain ⟨TZ, hTZ⟩ : ∃ T, strOfNums zs = T := ⟨_, rfl⟩
      have HTY := Lib.hid hTY
      have HTZ := Lib.hid hTZ
      have HZL := Lib.hid (show (zs.length : Int) ≤ 9223372036854775807 by have := HZ.out; omega)
      clear e0 e1 e2 e3 e4 t0 t1 t2 t3 t4 hl1 hl2 hl3 hl4 hl5 hp1 hp2 hp3 hp4 hall hz1 hw8 hlen hbyt he0 hzz hTY hTZ
      go_enter Try.func7, Try.ntmps7
      go_wp2_with fail
      go_quiet (fail)
      generalize hq : World.drewN _ nq = wq at *
      have HB0 := Lib.hid (show Below w.heap.size w wq by rw [← hq]; exact pw_below_drewN (below_alloc (Below.refl _ _) _) nq)
      clear hq
      go_wp2_with fail
      refine (cnew_calls _).mono ?_
      rintro e w1 ⟨rfl, hw, hb⟩
      have HW1 := Lib.hid hw
      have HB1 := Lib.hid (HB0.out.trans (Below.mono hb HB0.out.size))
      have HSZ := Lib.hid HB0.out.size
      clear hw hb
      generalize wq.heap.size = g at *
      go_wp2_with fail
      refine (cvar_calls n HW1.out (by decide)).mono ?_
      rintro e w2 ⟨rfl, hw, hb, hk⟩
      have HW2 := Lib.hid (show IsC w2 g g p1 by rw [← P1.out]; exact hw)
      have HB2 := Lib.hid (HB1.out.trans (Below.mono hb HSZ.out))
      clear hw hb hk
      go_wp2_with fail
      refine (ctext_calls A c ys HW2.out (fun W' hb hk => Kd.C_below HC1.out (HB2.out.trans (Below.mono hb HSZ.out))) HL1.out (by have := HLN.out; have := HY.out; omega)).mono ?_
      rintro e w3 ⟨rfl, hw, hb, hk⟩
      have HW3 := Lib.hid (show IsC w3 g g p2 by rw [← P2.out]; exact hw)
      have HB3 := Lib.hid (HB2.out.trans (Below.mono hb HSZ.out))
      clear hw hb hk
      go_wp2_with fail
      refine (cnum_calls m 8 HW3.out (by have := HLN.out; omega)).mono ?_
      rintro e w4 ⟨rfl, hw, hb, hk⟩
      have HW4 := Lib.hid (show IsC w4 g g p3 by rw [← P3.out]; exact hw)
      have HB4 := Lib.hid (HB3.out.trans (Below.mono hb HSZ.out))
      clear hw hb hk
      go_wp2_with fail
      refine (cvar_calls m HW4.out (by have := HLN.out; omega)).mono ?_
      rintro e w5 ⟨rfl, hw, hb, hk⟩
      have HW5 := Lib.hid (show IsC w5 g g p4 by rw [← P4.out]; exact hw)
      have HB5 := Lib.hid (HB4.out.trans (Below.mono hb HSZ.out))
      clear hw hb hk
      go_wp2_with fail
      have hbx : (w5.alloc (.cells #[.slice A2 zs.length c2] 22)).heap[w5.heap.size]? = some (.cells #[.slice A2 zs.length c2] 22 (0, 0)) := by simpa using heap_alloc_new w5 _
      have HBX := Lib.hid hbx
      have HAL := Lib.hid (below_alloc (Below.refl w5.heap.size w5) (.cells #[.slice A2 zs.length c2] 22))
      have HW6 := Lib.hid (HW5.out.alloc (.cells #[.slice A2 zs.length c2] 22))
      have HB6 := Lib.hid (HB5.out.trans (Below.mono HAL.out HB5.out.size))
      clear hbx
      refine (cput_calls (some ⟨w5.heap.size, 0, none⟩) 1 [zs] HW6.out (fun W' hb hk => ?_) (by simp) (by have := HLN.out; have := HZ.out; simp; omega)).mono ?_
      · exact C_row1 (hk.blk (by have := HW5.out.lt; omega) (HW6.out.row HBX.out (by decide)) HBX.out) HL2.out (Kd.C_below HC2.out (HB6.out.trans (Below.mono hb HSZ.out)))
      rintro e w7 ⟨rfl, hw, hb, hk⟩
      have HW7 := Lib.hid (show IsC w7 g g all by rw [← PA.out]; exact hw)
      have HB7 := Lib.hid (HB6.out.trans (Below.mono hb HSZ.out))
      clear hw hb hk
      go_wp2_with fail
      refine (cbytes_calls HW7.out (by have := HLN.out; omega)).mono ?_
      rintro e w8 ⟨v8, rfl, hv8, hb8⟩
      obtain ⟨A8, c8, rfl, hc8, hC8⟩ := Kd.R_reads hv8
      have HC8 := Lib.hid hC8
      have HL8 := Lib.hid hc8
      have HB8 := Lib.hid (HB7.out.trans (Below.mono hb8 HB7.out.size))
      clear hv8 hc8 hC8 hb8
      go_wp2_with fail
      refine (cof_calls A8 _ c8 all _ rfl HC8.out HL8.out (by have := HLN.out; omega)).mono ?_
      rintro e w9 ⟨r, rfl, hr9, hp9, hb9⟩
      have HP9 := Lib.hid (show IsR w9 w8.heap.size r all ((0 : Nat) : Int) 0 from hp9)
      have HSR := Lib.hid HB8.out.size
      have HB9 := Lib.hid (HB8.out.trans (Below.mono hb9 HSR.out))
      clear hp9 hb9 hr9
      generalize w8.heap.size = br at *
      go_wp2_with fail
      go_region_with (first
        | (go_at_call 10; have hh := cvarr_calls (p := 0) HP9.out.drew HBA.out (Nat.zero_le _) (by have := HLN.out; omega) (n : Int); rw [T0.out] at hh; refine hh.mono ?_; rintro e w10 ⟨rfl, hp, hk⟩; have HP10 := Lib.hid hp; have HB10 := Lib.hid ((below_drew HB9.out).trans (Below.mono hk.1 HSR.out)); have hcv10 := Kd.C_string (P := Try.prog) (c := c) Try.underlying22 Try.underlying5 Try.underlying9 (Kd.C_below HC1.out HB10.out); rw [HTY.out] at hcv10; clear hh hp hk HP9)
        | (go_at_call 25; have hh := ctextr_calls (p := p1.length) HP10.out HBA.out HPL.out.1 (by have := HLN.out; omega) 300 (by decide); rw [T1.out] at hh; refine hh.mono ?_; rintro e w11 ⟨v, rfl, hv, hp, hk⟩; have hcvt := own_string (P := Try.prog) Try.underlying22 Try.underlying5 Try.underlying9 (Kd.own_of_R hv); rw [HTY.out] at hcvt; obtain ⟨A11, c11, rfl⟩ := Kd.R_slice hv; have HP11 := Lib.hid hp; have HB11 := Lib.hid ((HB10.out).trans (Below.mono hk.1 HSR.out)); have hcv11 := Kd.C_string (P := Try.prog) (c := c) Try.underlying22 Try.underlying5 Try.underlying9 (Kd.C_below HC1.out HB11.out); rw [HTY.out] at hcv11; clear hh hp hk HP10 hv)
        | (go_at_call 24; have hh := cnumr_calls (p := p2.length) HP11.out HBA.out HPL.out.2.1 (by have := HLN.out; omega) 8; rw [T2.out] at hh; refine hh.mono ?_; rintro e w12 ⟨rfl, hp, hk⟩; have HP12 := Lib.hid hp; have HB12 := Lib.hid ((HB11.out).trans (Below.mono hk.1 HSR.out)); clear hh hp hk HP11)
        | (go_at_call 10; have hh := cvarr_calls (p := p3.length) HP12.out HBA.out HPL.out.2.2.1 (by have := HLN.out; omega) 18446744073709551615; rw [T3.out] at hh; refine hh.mono ?_; rintro e w13 ⟨rfl, hp, hk⟩; have HP13 := Lib.hid hp; have HB13 := Lib.hid ((HB12.out).trans (Below.mono hk.1 HSR.out)); clear hh hp hk HP12))
      all_goals
        have hcv13 := Kd.C_string (P := Try.prog) (c := c2) Try.underlying22 Try.underlying5 Try.underlying9 (Kd.C_below HC2.out (below_drew HB13.out))
        rw [HTZ.out] at hcv13
        go_wp2_with fail
        go_region_with (first
          | (go_at_call 16; have hh := ctake_calls (p := p4.length) HP13.out.drew HPL.out.2.2.2 (by have := HLN.out; omega) (zs.length : Int) HZL.out; rw [T4.out] at hh; refine hh.mono ?_; rintro e w14 ⟨v, rfl, hv, hp, hk⟩; have hcvz := own_string (P := Try.prog) Try.underlying22 Try.underlying5 Try.underlying9 (Kd.own_of_R hv); rw [HTZ.out] at hcvz; obtain ⟨A14, c14, rfl⟩ := Kd.R_slice hv; have HP14 := Lib.hid hp; have HB14 := Lib.hid ((below_drew HB13.out).trans (Below.mono hk.1 HSR.out)); have hcv14 := Kd.C_string (P := Try.prog) (c := c2) Try.underlying22 Try.underlying5 Try.underlying9 (Kd.C_below HC2.out HB14.out); rw [HTZ.out] at hcv14; clear hh hp hk HP13 hv)
          | (go_at_call 12; refine (cleft_calls HP14.out (by omega) (by omega) (by have := HLN.out; omega)).mono ?_; rintro e w15 ⟨rfl, nd, hn⟩; have HP15 := Lib.hid (show IsR w15 br r all ((all.length : Nat) : Int) 0 by rw [hn]; exact HP14.out.drewN nd); have HB15 := Lib.hid (show Below w.heap.size w w15 by rw [hn]; exact pw_below_drewN HB14.out nd); rw [HZZ.out]; clear hn HP14)
          | (go_at_call 26; have hh := cend_calls (p := all.length) HP15.out (Nat.le_refl _) (by have := HLN.out; omega); rw [HE.out] at hh; refine hh.mono ?_; rintro e w16 ⟨rfl, hp, hk⟩; have HB16 := Lib.hid (HB15.out.trans (Below.mono hk.1 HSR.out)); clear hh hp hk HP15)
          | (go_at_call 9; refine (awake_calls _).mono ?_; rintro e w17 ⟨rfl, hb17⟩; have HB17 := Lib.hid (HB16.out.trans (Below.mono hb17 HB16.out.size)); clear hb17))
        all_goals
          go_wp2
          go_ret
          exact ⟨rfl, HB17.out⟩
end Go.Proofs.Ytigmkbkmfhlimaa.Hand
