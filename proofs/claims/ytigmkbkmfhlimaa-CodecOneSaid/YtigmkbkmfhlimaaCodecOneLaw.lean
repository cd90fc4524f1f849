/- CodecOne: walked. -/
import Derived.Test.YtigmkbkmfhlimaaProg
import Derived.Below
import Derived.Deep.Draws
import Derived.Deep.AppendLies
import Derived.Maps.AppendAt
import Derived.OwnWalk
import Derived.Laws.BytesArg
import Derived.Laws.MakeOwn
import Derived.Laws.OwnMore
import Derived.Deep.OwnRows
import Derived.Tactics
import Derived.Lib.ConvBytes
import Derived.Laws.Slices
import Derived.WalkKit
import Derived.KernelRfl
import Derived.RowKit3
import Derived.Deep.LoopGhost
import Derived.Deep.QuietTactic
import Derived.BigQuiet
import Derived.WideLaws
import Derived.Deep.DeepCutAuto
import Derived.Deep.CutBlock
import Derived.Deep.RegionHeld3
import Derived.Laws.Rows
import Derived.Lib.AppendStr
import Derived.ArgAppend
import Derived.Laws.IdiomCopy
import Derived.OrdersHeld
import Derived.Laws.BitsLemmas
import Derived.RowKit
import Derived.StillTailTactics
import Derived.Test.YtigmkbkmfhlimaaWWords
import Derived.Test.YtigmkbkmfhlimaaWLast
import Derived.Test.YtigmkbkmfhlimaaWMore
import Derived.Lib.Hide
import Derived.LaidEql
import Derived.Outline
import Derived.Deep.RegionLaw
import Derived.Deep.RegionHeld3
import Derived.BigRegion
import Derived.Test.YtigmkbkmfhlimaaAwake
import Derived.Test.YtigmkbkmfhlimaaWriter
import Derived.Test.YtigmkbkmfhlimaaReader2
import Derived.Test.YtigmkbkmfhlimaaOpens
import Derived.Test.YtigmkbkmfhlimaaCodecOnePlain
import Derived.Test.YtigmkbkmfhlimaaStrBytes
import Derived.Test.YtigmkbkmfhlimaaRefPlain
import Derived.Deep.DrawnRows
namespace Go.Proofs.Ytigmkbkmfhlimaa.Hand
open Go Go.RowKit Go.Proofs.Ytigmkbkmfhlimaa.Plain Go.Proofs.Ytigmkbkmfhlimaa.PAll Go.Proofs.YtigmkbkmfhlimaaW.PrintWords Go.Proofs.YtigmkbkmfhlimaaW.PrintLast Go.Proofs.YtigmkbkmfhlimaaW.PrintMore
attribute [local go_sem] max2_int min2_int max_two min_two max_three min_three max_four min_four
set_option linter.unusedVariables false
set_option linter.unusedSimpArgs false
attribute [local go_sem ↓] Go.wp_at_zero Go.wp_at_succ
set_option maxHeartbeats 8000000 in
set_option maxRecDepth 100000 in
theorem one_calls (A : Option Addr) (c : Nat) (bs : List Int) (w : World) (hr : Kd.C (Kd.int .u8) w A bs.length bs) (hc : bs.length ≤ c) (hlen : bs.length < 140737488355328) (hb : ∀ x ∈ bs, 0 ≤ x ∧ x < 256) :
    Calls Try.prog 3 #[.slice A bs.length c] w fun e w' => e = .returned (.bool true) ∧ Below w.heap.size w w' := by
  have HR := Lib.hid hr
  have HC := Lib.hid hc
  have HBY := Lib.hid hb
  have HL := Lib.hid hlen
  by_cases h12 : 12 < bs.length
  · have f1 : decide (12 < (bs.length : Int)) = true := decide_eq_true (by omega)
    clear hr hc hb hlen h12
    go_enter Try.func3, Try.ntmps3
    go_wp2_with fail
    refine (cof_calls A _ c bs _ rfl HR.out HC.out HL.out).mono ?_
    rintro e w1 ⟨g, rfl, hg1, hp1, hb1⟩
    have HB1 := Lib.hid hb1
    clear hp1 hb1 hg1
    go_wp2_with fail
    refine (awake_calls _).mono ?_
    rintro e w3 ⟨rfl, hb3⟩
    have HB3 := Lib.hid (HB1.out.trans (Below.mono hb3 HB1.out.size))
    clear hb3
    go_wp2
    go_ret
    exact ⟨rfl, HB3.out⟩
  · have f1 : decide (12 < (bs.length : Int)) = false := decide_eq_false (by omega)
    have hone := one_plain bs hb 18446744073709551615
    obtain ⟨r, hvar⟩ : ∃ r, varR bs 0 0 18446744073709551615 = r := ⟨_, rfl⟩
    rw [hvar] at hone
    obtain ⟨n, p, x⟩ := r
    simp only at hone
    have hle := varR_le (bs := bs) (p := 0) (Nat.zero_le _) 0 18446744073709551615
    rw [hvar] at hle
    simp only at hle
    have HVAR := Lib.hid hvar
    have HS := Lib.hid (show bs.length ≤ 100 by omega)
    have HPL := Lib.hid hle
    by_cases hx : x = 0
    · obtain ⟨hvb, hpl, hn0, hn1⟩ := hone.2 hx
      obtain ⟨m, rfl⟩ := Int.eq_ofNat_of_zero_le hn0
      rw [Int.toNat_natCast] at hvb
      subst hx
      have HVB := Lib.hid hvb
      have HTK := Lib.hid (takeR_rest bs p hpl)
      obtain ⟨d, hd⟩ : ∃ d : Int, (bs.length : Int) - (p : Int) = d := ⟨_, rfl⟩
      rw [hd] at HTK
      have HD := Lib.hid hd
      have HDL := Lib.hid (show d ≤ 9223372036854775807 by omega)
      have HDR := Lib.hid (show (bs.drop p).length ≤ 100 by simp; omega)
      obtain ⟨ys, hys⟩ : ∃ ys, bs.drop p = ys := ⟨_, rfl⟩
      rw [hys] at HVB HTK HDR
      obtain ⟨S, hS⟩ : ∃ S, strOfNums bs = S := ⟨_, rfl⟩
      have HSS := Lib.hid hS
      clear hr hc hb hlen h12 hvar hone hle hvb hpl hn0 hn1 hd hys hS
      go_enter Try.func3, Try.ntmps3
      go_wp2_with fail
      refine (cof_calls A _ c bs _ rfl HR.out HC.out HL.out).mono ?_
      rintro e w1 ⟨g, rfl, hg1, hp1, hb1⟩
      have HP1 := Lib.hid hp1
      have HB1 := Lib.hid hb1
      clear hp1 hb1 hg1
      go_wp2_with fail
      have hh := cvarr_calls (p := 0) HP1.out HBY.out (Nat.zero_le _) (by have := HS.out; omega) 18446744073709551615
      rw [HVAR.out] at hh
      refine hh.mono ?_
      rintro e w2 ⟨rfl, hp2, hk2⟩
      have HP2 := Lib.hid hp2
      have HB2 := Lib.hid (HB1.out.trans hk2.1)
      clear hh hp2 hk2
      go_wp2_with fail
      refine (cerr_calls HP2.out).mono ?_
      rintro e w3 ⟨rfl, rfl⟩
      go_wp2_with fail
      refine (cnew_calls _).mono ?_
      rintro e w3 ⟨rfl, hw3, hb3⟩
      have HW3 := Lib.hid hw3
      have HP3 := Lib.hid (HP2.out.later hb3)
      have HB3 := Lib.hid (HB2.out.trans (Below.mono hb3 HB2.out.size))
      have HG := Lib.hid HP2.out.lt
      have HSZ := Lib.hid HB2.out.size
      clear hw3 hb3
      generalize w2.heap.size = gw at *
      go_wp2_with fail
      refine (cvar_calls m HW3.out (by decide)).mono ?_
      rintro e w4 ⟨rfl, hw4, hb4, hk4⟩
      have HW4 := Lib.hid (show IsC w4 gw gw (varB m) from hw4)
      have HP4 := Lib.hid (HP3.out.below hb4 HG.out)
      have HB4 := Lib.hid (HB3.out.trans (Below.mono hb4 HSZ.out))
      clear hw4 hb4 hk4
      go_wp2_with fail
      refine (cleft_calls HP4.out (by omega) (by have := HPL.out; omega) (by have := HS.out; omega)).mono ?_
      rintro e w5 ⟨rfl, nd, hn⟩
      have HW5 := Lib.hid (show IsC w5 gw gw (varB m) by rw [hn]; exact HW4.out.drewN nd)
      have HP5 := Lib.hid (show IsR w5 w.heap.size g bs (p : Int) 0 by rw [hn]; exact HP4.out.drewN nd)
      have HB5 := Lib.hid (show Below w.heap.size w w5 by rw [hn]; exact pw_below_drewN HB4.out nd)
      rw [HD.out]
      clear hn
      go_wp2_with fail
      have hh := ctake_calls HP5.out HPL.out (by have := HS.out; omega) d HDL.out
      rw [HTK.out] at hh
      refine hh.mono ?_
      rintro e w6 ⟨v, rfl, hv, hp6, hk6⟩
      obtain ⟨A6, c6, rfl, hc6, hC6⟩ := Kd.R_reads hv
      have HV6 := Lib.hid hv
      have HC6 := Lib.hid hc6
      have HW6 := Lib.hid (HW5.out.but hk6.2 HG.out)
      have HRW := Lib.hid (show ∀ k, rowAt w6 gw = some k → k < w5.heap.size by rw [HW5.out.butrow hk6.2 HG.out]; exact HW5.out.rowlt)
      have HGL := Lib.hid HW5.out.lt
      have HB6 := Lib.hid (HB5.out.trans hk6.1)
      have HS6 := Lib.hid hk6.1.size
      clear hh hv hp6 hk6 hC6 hc6
      go_wp2_with fail
      have hbx : (w6.alloc (.cells #[.slice A6 ys.length c6] 22)).heap[w6.heap.size]? = some (.cells #[.slice A6 ys.length c6] 22 (0, 0)) := by simpa using heap_alloc_new w6 _
      have hal : Below w6.heap.size w6 (w6.alloc (.cells #[.slice A6 ys.length c6] 22)) := below_alloc (Below.refl _ _) _
      have HAL := Lib.hid hal
      have hW7 := HW6.out.alloc (.cells #[.slice A6 ys.length c6] 22)
      refine (cput_calls (some ⟨w6.heap.size, 0, none⟩) 1 [ys] hW7 (fun W' hb hk => ?_) (by simp) (by have := HDR.out; have := varB_length m; simp; omega)).mono ?_
      · have hb' := hk.blk (k := w6.heap.size) (by have := HW6.out.lt; omega) (hW7.row hbx (by decide)) hbx
        have hrow : rowAt (w6.alloc (.cells #[.slice A6 ys.length c6] 22)) gw = rowAt w6 gw := by
          unfold rowAt
          rw [World.cell?_of_block (w := w6) (hal.block gw HW6.out.lt)]
        have h7 := Kd.R_reads' (R_ckeep (Kd.R_below HV6.out hal) hk HGL.out (by rw [hrow]; exact HRW.out))
        exact C_row1 hb' HC6.out h7.2.2
      · clear hbx hal hW7
        rintro e w8 ⟨rfl, hw8, hb8, hk8⟩
        have HW8 := Lib.hid (show IsC w8 gw gw bs by rw [← HVB.out]; simpa using hw8)
        have HB8 := Lib.hid (HB6.out.trans ((Below.mono HAL.out HB6.out.size).trans (Below.mono hb8 HSZ.out)))
        have HLE := Lib.hid HB8.out.size
        clear hw8 hb8 hk8
        have hcv0 := Kd.C_string (P := Try.prog) (c := c) Try.underlying22 Try.underlying5 Try.underlying9 (Kd.C_below HR.out (below_drew HB8.out))
        rw [HSS.out] at hcv0
        go_wp2_with fail
        go_region_with (first
          | (go_at_call 17; refine (cbytes_calls HW8.out.drew (by have := HS.out; omega)).mono ?_; rintro e w9 ⟨v9, rfl, hv9, hb9⟩; have hcv := own_string (P := Try.prog) Try.underlying22 Try.underlying5 Try.underlying9 (Kd.own_of_R hv9); have hcv2 := Kd.C_string (P := Try.prog) (c := c) Try.underlying22 Try.underlying5 Try.underlying9 (Kd.C_below HR.out ((below_drew HB8.out).trans (Below.mono hb9 HLE.out))); rw [HSS.out] at hcv hcv2; have HB9 := Lib.hid ((below_drew HB8.out).trans (Below.mono hb9 HLE.out)); clear hb9 hv9)
          | (go_at_call 9; refine (awake_calls _).mono ?_; rintro e w10 ⟨rfl, hb10⟩; have HB10 := Lib.hid (HB9.out.trans (Below.mono hb10 HB9.out.size)); clear hb10))
        all_goals
          go_wp2
          go_ret
          exact ⟨rfl, HB10.out⟩
    · obtain ⟨hn, hp⟩ := hone.1 hx
      subst hn hp
      have b1 : (x != 0) = true := bne_iff_ne.2 hx
      clear hr hc hb hlen h12 hvar hone hx hle
      go_enter Try.func3, Try.ntmps3
      go_wp2_with fail
      refine (cof_calls A _ c bs _ rfl HR.out HC.out HL.out).mono ?_
      rintro e w1 ⟨g, rfl, hg1, hp1, hb1⟩
      have HP1 := Lib.hid hp1
      have HB1 := Lib.hid hb1
      clear hp1 hb1 hg1
      go_wp2_with fail
      have hh := cvarr_calls (p := 0) HP1.out HBY.out (Nat.zero_le _) (by have := HS.out; omega) 18446744073709551615
      rw [HVAR.out] at hh
      refine hh.mono ?_
      rintro e w2 ⟨rfl, hp2, hk2⟩
      have HP2 := Lib.hid hp2
      have HB2 := Lib.hid (HB1.out.trans hk2.1)
      clear hh hp2 hk2
      go_wp2_with fail
      refine (cerr_calls HP2.out).mono ?_
      rintro e w3 ⟨rfl, rfl⟩
      go_wp2_with fail
      refine (cleft_calls HP2.out (by omega) (by omega) (by have := HS.out; omega)).mono ?_
      rintro e w3 ⟨rfl, nd, hn⟩
      have HB3 := Lib.hid (show Below w.heap.size w w3 by rw [hn]; exact pw_below_drewN HB2.out nd)
      have e0 : (bs.length : Int) - ((0 : Nat) : Int) = (bs.length : Int) := by omega
      rw [e0]
      clear hn e0
      go_wp2_with fail
      refine (awake_calls _).mono ?_
      rintro e w4 ⟨rfl, hb4⟩
      have HB4 := Lib.hid (HB3.out.trans (Below.mono hb4 HB3.out.size))
      clear hb4
      go_wp2
      go_ret
      exact ⟨rfl, HB4.out⟩
end Go.Proofs.Ytigmkbkmfhlimaa.Hand
