/- TxnParses: walked. -/
import Derived.Test.YtpjkhecefppamaaProg
import Derived.Below
import Derived.Deep.Draws
import Derived.Deep.AppendLies
import Derived.Maps.AppendAt
import Derived.OwnWalk
import Derived.Laws.BytesArg
import Derived.Laws.MakeOwn
import Derived.Laws.OwnMore
import Derived.Deep.OwnRows
import Derived.Tactics
import Derived.Lib.ConvBytes
import Derived.Laws.Slices
import Derived.WalkKit
import Derived.KernelRfl
import Derived.RowKit3
import Derived.Deep.LoopGhost
import Derived.Deep.QuietTactic
import Derived.BigQuiet
import Derived.WideLaws
import Derived.Deep.DeepCutAuto
import Derived.Deep.CutBlock
import Derived.Deep.RegionHeld3
import Derived.Laws.Rows
import Derived.Lib.AppendStr
import Derived.ArgAppend
import Derived.Laws.IdiomCopy
import Derived.OrdersHeld
import Derived.Laws.BitsLemmas
import Derived.RowKit
import Derived.StillTailTactics
import Derived.Test.YtpjkhecefppamaaWWords
import Derived.Test.YtpjkhecefppamaaWLast
import Derived.Test.YtpjkhecefppamaaWMore
import Derived.Lib.Hide
import Derived.LaidEql
import Derived.Outline
import Derived.Deep.RegionLaw
import Derived.Deep.DrawnRows
import Derived.Test.YtpjkhecefppamaaBytes
import Derived.Test.YtpjkhecefppamaaParse
import Derived.Test.YtpjkhecefppamaaRefParse
import Derived.Test.YtpjkhecefppamaaBackPlain
namespace Go.Proofs.Ytpjkhecefppamaa.Hand
open Go Go.RowKit Go.Proofs.Ytpjkhecefppamaa.Plain Go.Proofs.Ytpjkhecefppamaa.PAll Go.Proofs.YtpjkhecefppamaaW.PrintWords Go.Proofs.YtpjkhecefppamaaW.PrintLast Go.Proofs.YtpjkhecefppamaaW.PrintMore
set_option linter.unusedVariables false
set_option linter.unusedSimpArgs false
attribute [local go_sem ↓] Go.wp_at_zero Go.wp_at_succ
set_option maxHeartbeats 4000000 in
set_option maxRecDepth 100000 in
theorem parses_calls (A : Option Addr) (c : Nat) (bs : List Int) (w : World) (hr : Kd.C (Kd.int .u8) w A bs.length bs) (hc : bs.length ≤ c) (hb : ∀ x ∈ bs, 0 ≤ x ∧ x < 256) :
    Calls Try.prog 4 #[.slice A bs.length c] w fun e w' => e = .returned (.bool true) ∧ Below w.heap.size w w' := by
  have HR := Lib.hid hr
  have HC := Lib.hid hc
  have HBY := Lib.hid hb
  by_cases h300 : 300 < bs.length
  · have b1 : decide ((300 : Int) < (bs.length : Int)) = true := decide_eq_true (by omega)
    clear hr hc hb h300
    go_enter Try.func4, Try.ntmps4
    go_wp2_with fail
    refine (awake_calls _).mono ?_
    rintro e w4 ⟨rfl, hb4⟩
    have HB4 := Lib.hid hb4
    clear hb4
    go_wp2
    go_ret
    exact ⟨rfl, HB4.out⟩
  · have b1 : decide ((300 : Int) < (bs.length : Int)) = false := decide_eq_false (by omega)
    have HL := Lib.hid (show bs.length ≤ 300 by omega)
    have HPA := Lib.hid (tparse_calls A c bs w hr hc hb (by omega))
    have HUP := Lib.hid (fun W => uparse_calls bs W hb (by omega))
    have HCV := Lib.hid (fun W (hbl : Below w.heap.size w W) => Kd.C_string (P := Try.prog) (c := c) Try.underlying26 Try.underlying5 Try.underlying9 (Kd.C_below hr hbl))
    have hstr : strOfNums bs = tl bs 0 := rfl
    rw [hstr] at HCV
    obtain ⟨nn1, nn2, nn3⟩ := parse_nn hb
    have HBK := Lib.hid (parse_back hb)
    obtain ⟨E, hE⟩ : ∃ E, parseE bs = E := ⟨_, rfl⟩
    obtain ⟨S, hS⟩ : ∃ S, parseS bs = S := ⟨_, rfl⟩
    obtain ⟨O, hO⟩ : ∃ O, parseO bs = O := ⟨_, rfl⟩
    obtain ⟨T, hT⟩ : ∃ T, tl bs 0 = T := ⟨_, rfl⟩
    rw [hE, hS, hO] at HPA
    rw [hE, hS, hO, hT] at HUP
    rw [hT] at HCV
    rw [hE, hS, hO] at HBK
    rw [hS] at nn1
    rw [hO] at nn2 nn3
    have HN1 := Lib.hid nn1
    have HN2 := Lib.hid nn2
    have HN3 := Lib.hid nn3
    have HTT := Lib.hid (show strOfNums bs = T from hT)
    have HSM := Lib.hid (same_f (O.map toO) S (by rw [List.length_map]; omega))
    have HRF := Lib.hid (ref_f S O (by omega) 21 (by omega))
    obtain ⟨xs, hxs⟩ : ∃ xs, O.map toO = xs := ⟨_, rfl⟩
    rw [hxs] at HUP HSM HRF
    obtain ⟨n, hn⟩ : ∃ n, bs.length = n := ⟨_, rfl⟩
    rw [hn] at HPA HCV b1 ⊢
    clear hr hc hb h300 hstr nn1 nn2 nn3 hE hS hO hT hxs hn
    go_enter Try.func4, Try.ntmps4
    go_wp2_with fail
    with_reducible refine HPA.out.mono ?_
    rintro e w1 ⟨v1, rfl, hv1, hb1⟩
    obtain ⟨A1, c1, hs1⟩ := Kd.R_slice hv1
    subst hs1
    have HV1 := Lib.hid hv1
    have HB1 := Lib.hid hb1
    have HBA := Lib.hid (below_alloc hb1 (.cells #[.int .u64 S, .slice A1 O.length c1] 25))
    have HK1 := Lib.hid (show (w1.alloc (.cells #[.int .u64 S, .slice A1 O.length c1] 25)).heap[w1.heap.size]? = some (.cells #[.int .u64 S, .slice A1 O.length c1] 25 (0, 0)) by simpa using heap_alloc_new w1 _)
    have hcv := HCV.out _ HBA.out
    have HUP1 := Lib.hid (HUP.out (w1.alloc (.cells #[.int .u64 S, .slice A1 O.length c1] 25)))
    clear hv1 hb1 HPA
    go_wp2_with fail
    with_reducible refine HUP1.out.mono ?_
    rintro e w2 ⟨v2, rfl, hv2, hb2⟩
    obtain ⟨A2, c2, hs2⟩ := Kd.R_slice hv2
    subst hs2
    have HV2 := Lib.hid hv2
    have HB2 := Lib.hid (HBA.out.trans (Below.mono hb2 HBA.out.size))
    have HK2 := Lib.hid ((hb2.block _ (blk_lt HK1.out)).trans HK1.out)
    have HV1' := Lib.hid (Kd.R_below (Kd.R_alloc HV1.out _) hb2)
    have HBB := Lib.hid (below_alloc HB2.out (.cells #[.int .u64 S, .slice A2 xs.length c2] 35))
    have HK3 := Lib.hid (blk_alloc HK2.out (.cells #[.int .u64 S, .slice A2 xs.length c2] 35))
    have HK4 := Lib.hid (show (w2.alloc (.cells #[.int .u64 S, .slice A2 xs.length c2] 35)).heap[w2.heap.size]? = some (.cells #[.int .u64 S, .slice A2 xs.length c2] 35 (0, 0)) by simpa using heap_alloc_new w2 _)
    have HV1'' := Lib.hid (Kd.R_alloc HV1'.out (.cells #[.int .u64 S, .slice A2 xs.length c2] 35))
    have HV2' := Lib.hid (Kd.R_alloc HV2.out (.cells #[.int .u64 S, .slice A2 xs.length c2] 35))
    clear hv2 hb2 hcv HUP HUP1 HK1 HK2 HBA HV1 HV1' HV2
    go_wp2_with fail
    obtain ⟨W3, hW3⟩ : ∃ W3, w2.alloc (.cells #[.int .u64 S, .slice A2 xs.length c2] 35) = W3 := ⟨_, rfl⟩
    rw [hW3] at HBB HK3 HK4 HV1'' HV2' ⊢
    obtain ⟨k1, hk1⟩ : ∃ k, w1.heap.size = k := ⟨_, rfl⟩
    obtain ⟨k2, hk2⟩ : ∃ k, w2.heap.size = k := ⟨_, rfl⟩
    rw [hk1] at HK3 ⊢
    rw [hk2] at HK4 ⊢
    clear hW3 hk1 hk2
    have c0 := blk_cell HK3.out 0
    have c1' := blk_cell HK3.out 1
    have d0 := blk_cell HK4.out 0
    have d1 := blk_cell HK4.out 1
    simp only [List.getElem?_toArray, List.getElem?_cons_zero, List.getElem?_cons_succ] at c0 c1' d0 d1
    have c0d : W3.drew.cell? ⟨k1, 0, none⟩ = some (.int .u64 S) := c0
    have c1d : W3.drew.cell? ⟨k1, 1, none⟩ = some (.slice A1 O.length c1) := c1'
    have d0d : W3.drew.cell? ⟨k2, 0, none⟩ = some (.int .u64 S) := d0
    have d1d : W3.drew.cell? ⟨k2, 1, none⟩ = some (.slice A2 xs.length c2) := d1
    have HREF := Lib.hid (show Calls Try.prog 9 #[.agg #[.int .u64 S, .slice A1 O.length c1]] W3.drew fun e w' => ∃ v : Value, e = .returned (.agg #[.int .u64 S, v]) ∧ Kd.R k56 56 w' W3.drew.heap.size (fun _ => True) v xs ∧ Below W3.drew.heap.size W3.drew w' from by
      obtain ⟨_, hl, hC⟩ := Kd.R_reads' (Kd.R_drew HV1''.out)
      exact mastheadlaw14_Ref.calls 21 S A1 c1 O S xs _ hC hl HRF.out)
    have HSAME := Lib.hid (show ∀ w5 A5 c5, Kd.R k56 56 w5 W3.drew.heap.size (fun _ => True) (.slice A5 xs.length c5) xs → Below W3.drew.heap.size W3.drew w5 → Calls Try.prog 15 #[.agg #[.int .u64 S, .slice A5 xs.length c5], .agg #[.int .u64 S, .slice A2 xs.length c2]] w5 fun e w' => e = .returned (.bool true) ∧ Below w5.heap.size w5 w' from fun w5 A5 c5 h5 hb => by
      obtain ⟨_, hl5, hC5⟩ := Kd.R_reads' h5
      obtain ⟨_, hl2, hC2⟩ := Kd.R_reads' (Kd.R_below (Kd.R_drew HV2'.out) hb)
      exact mastheadref14_Same.calls (xs.length + 2) S A5 c5 xs S A2 c2 xs true w5 hC5 hl5 hC2 hl2 HSM.out)
    have HAFT := Lib.hid (show ∀ w5, Below W3.drew.heap.size W3.drew w5 → w5.cell? ⟨k2, 0, none⟩ = some (.int .u64 S) ∧ w5.cell? ⟨k2, 1, none⟩ = some (.slice A2 xs.length c2) ∧ Below w.heap.size w w5 ∧ w5.heap[k1]? = some (.cells #[.int .u64 S, .slice A1 O.length c1] 25 (0, 0)) ∧ Kd.R k54 54 w5 w.heap.size (fun _ => True) (.slice A1 O.length c1) O from fun w5 hb5 => by
      refine ⟨(hb5.cell (World.block_lt_of_cell? _ _ d0d)).trans d0d, (hb5.cell (World.block_lt_of_cell? _ _ d1d)).trans d1d, (below_drew HBB.out).trans (Below.mono hb5 (below_drew HBB.out).size), ?_, Kd.R_below (Kd.R_drew HV1''.out) hb5⟩
      exact (hb5.block k1 (blk_lt HK3.out)).trans HK3.out)
    clear c0 c1' d0 d1
    go_region_law (first
      | (go_simp; go_at_call 9; with_reducible refine HREF.out.mono ?_; rintro e w5 ⟨v5, rfl, hv5, hb5⟩; obtain ⟨A5, c5, hs5⟩ := Kd.R_slice hv5; subst hs5; obtain ⟨d0e, d1e, hb5', hk5, hr5⟩ := HAFT.out w5 hb5; have HSAME1 := Lib.hid (HSAME.out w5 A5 c5 hv5 hb5); have HB5 := Lib.hid hb5'; have HK5 := Lib.hid hk5; have HV5 := Lib.hid hr5; clear hv5 hb5 hb5' hk5 hr5)
      | (go_simp; go_at_call 15; with_reducible refine HSAME1.out.mono ?_; rintro e w6 ⟨rfl, hb6⟩; have HB6 := Lib.hid (HB5.out.trans (Below.mono hb6 HB5.out.size)); have HK6 := Lib.hid ((hb6.block k1 (blk_lt HK5.out)).trans HK5.out); have HV6 := Lib.hid (Kd.R_below HV5.out hb6); clear hb6))
    all_goals
      clear HREF HSAME HSAME1 HV5 HK5 HB5 HV1'' HV2' HK3 HK4 HBB
      have c0 := blk_cell HK6.out 0
      have c1' := blk_cell HK6.out 1
      simp only [List.getElem?_toArray, List.getElem?_cons_zero, List.getElem?_cons_succ] at c0 c1'
      by_cases hE : E = 0
      · obtain ⟨be, bv, bl, bg⟩ := HBK.out hE
        have HBY2 := Lib.hid (show Calls Try.prog 16 #[.agg #[.int .u64 S, .slice A1 O.length c1]] w6 fun e w' => ∃ v, e = .returned (.tuple #[v, .int .i64 0]) ∧ Kd.R (Kd.int .u8) 5 w' w6.heap.size (fun _ => True) v bs ∧ Below w6.heap.size w6 w' from by
          obtain ⟨_, hl, hC⟩ := Kd.R_reads' HV6.out
          have := tbytes_calls S A1 c1 O w6 HN1.out hC hl HN2.out (by omega)
          rwa [be, bv] at this)
        subst hE
        clear be bv bl bg HBK
        go_wp2_with fail
        with_reducible refine HBY2.out.mono ?_
        rintro e w7 ⟨v7, rfl, hv7, hb7⟩
        have hcv1 := own_string (P := Try.prog) Try.underlying26 Try.underlying5 Try.underlying9 (Kd.own_of_R hv7)
        rw [HTT.out] at hcv1
        have HB7 := Lib.hid (HB6.out.trans (Below.mono hb7 HB6.out.size))
        have hcv2 := HCV.out _ HB7.out
        clear hv7 hb7 c0 c1'
        go_wp2_with fail
        refine (awake_calls _).mono ?_
        rintro e w8 ⟨rfl, hb8⟩
        have HB8 := Lib.hid (HB7.out.trans (Below.mono hb8 HB7.out.size))
        clear hb8
        go_wp2
        go_ret
        exact ⟨rfl, HB8.out⟩
      · have x1 : (E = 0) = False := eq_false hE
        have x2 : (E == 0) = false := by simpa using hE
        have x3 : (E != 0) = true := by simpa using hE
        clear hE
        go_wp2_with fail
        refine (awake_calls _).mono ?_
        rintro e w8 ⟨rfl, hb8⟩
        have HB8 := Lib.hid (HB6.out.trans (Below.mono hb8 HB6.out.size))
        clear hb8
        go_wp2
        go_ret
        exact ⟨rfl, HB8.out⟩
end Go.Proofs.Ytpjkhecefppamaa.Hand
