/- A transaction's Parse: walked. -/
import Derived.Test.YtpjkhecefppamaaDoorProg
import Derived.Below
import Derived.Deep.Draws
import Derived.Deep.AppendLies
import Derived.Maps.AppendAt
import Derived.OwnWalk
import Derived.Laws.BytesArg
import Derived.Laws.MakeOwn
import Derived.Laws.OwnMore
import Derived.Deep.OwnRows
import Derived.Tactics
import Derived.Lib.ConvBytes
import Derived.Laws.Slices
import Derived.WalkKit
import Derived.KernelRfl
import Derived.RowKit3
import Derived.Deep.LoopGhost
import Derived.Deep.QuietTactic
import Derived.BigQuiet
import Derived.WideLaws
import Derived.Deep.DeepCutAuto
import Derived.Deep.CutBlock
import Derived.Deep.RegionHeld3
import Derived.Laws.Rows
import Derived.Lib.AppendStr
import Derived.ArgAppend
import Derived.Laws.IdiomCopy
import Derived.OrdersHeld
import Derived.Laws.BitsLemmas
import Derived.RowKit
import Derived.StillTailTactics
import Derived.Test.YtpjkhecefppamaaDoorWWords
import Derived.Test.YtpjkhecefppamaaDoorWLast
import Derived.Test.YtpjkhecefppamaaDoorWMore
import Derived.Lib.Hide
import Derived.LaidEql
import Derived.Outline
import Derived.Test.YtpjkhecefppamaaDoorTxA
namespace Go.Proofs.YtpjkhecefppamaaDoor.Hand
open Go Go.RowKit Go.Proofs.YtpjkhecefppamaaDoor.Plain Go.Proofs.YtpjkhecefppamaaDoor.PAll Go.Proofs.YtpjkhecefppamaaDoorW.PrintWords Go.Proofs.YtpjkhecefppamaaDoorW.PrintLast Go.Proofs.YtpjkhecefppamaaDoorW.PrintMore
set_option linter.unusedVariables false
set_option linter.unusedSimpArgs false
theorem infoO : (Tryd.prog.info? 46).map (fun i => (i.zero, i.size, i.bytes)) = some (some (.agg #[.int .u64 0, .slice none 0 0]), 2, 32) := by kernel_rfl
set_option maxHeartbeats 4000000 in
set_option maxRecDepth 100000 in
theorem tparse_calls (A : Option Addr) (c : Nat) (bs : List Int) (w : World) (hr : Kd.C (Kd.int .u8) w A bs.length bs) (hc : bs.length ≤ c) (hb : ∀ x ∈ bs, 0 ≤ x ∧ x < 256) (hl : bs.length ≤ 100000000) :
    Calls Tryd.prog 9 #[.slice A bs.length c] w fun e w' => ∃ v, e = .returned (.tuple #[.agg #[.int .u64 (parseS bs), v], .int .i64 (parseE bs)]) ∧ Kd.R k46 46 w' w.heap.size (fun _ => True) v (parseO bs) ∧ Below w.heap.size w w' := by
  have HR := Lib.hid hr
  have HC := Lib.hid hc
  have HBY := Lib.hid hb
  have HL := Lib.hid hl
  obtain ⟨E, hE⟩ : ∃ E, parseE bs = E := ⟨_, rfl⟩
  obtain ⟨S, hS⟩ : ∃ S, parseS bs = S := ⟨_, rfl⟩
  obtain ⟨O, hO⟩ : ∃ O, parseO bs = O := ⟨_, rfl⟩
  rw [hE, hS, hO]
  have HE : Hid (E = if badR bs then 3 else endE bs) := Lib.hid hE.symm
  have HS : Hid (S = if badR bs then 0 else if endE bs = 0 then (sR bs).1 else 0) := Lib.hid hS.symm
  have HO : Hid (O = if badR bs then [] else if endE bs = 0 then (oR bs).1 else []) := Lib.hid hO.symm
  obtain ⟨n, hn⟩ : ∃ n, bs.length = n := ⟨_, rfl⟩
  have HN := Lib.hid hn
  rw [hn]
  clear hr hc hb hl hE hS hO
  go_enter Tryd.func9, Tryd.ntmps9
  go_wp2_with fail
  have HB1 := Lib.hid (below_alloc (Below.refl w.heap.size w) (.cells #[.int .u64 0, .slice none 0 0] 25))
  have HK1 := Lib.hid (show (w.alloc (.cells #[.int .u64 0, .slice none 0 0] 25)).heap[w.heap.size]? = some (.cells #[.int .u64 0, .slice none 0 0] 25 (0, 0)) by simpa using heap_alloc_new w _)
  refine (cof_calls A n c bs _ hn.symm (Kd.C_below HR.out HB1.out) HC.out (by have := HL.out; omega)).mono ?_
  rintro e w1 ⟨g, rfl, hg1, hp1, hb1⟩
  have HP := Lib.hid hp1
  have HB2 := Lib.hid (HB1.out.trans (Below.mono hb1 HB1.out.size))
  have HK2 := Lib.hid ((hb1.block w.heap.size (blk_lt HK1.out)).trans HK1.out)
  rw [World.size_alloc] at hg1
  have HG := Lib.hid hg1
  have HSZ := Lib.hid (show w.heap.size ≤ (w.alloc (.cells #[.int .u64 0, .slice none 0 0] 25)).heap.size from HB1.out.size)
  clear hp1 hb1 hg1 HB1 HK1 hn
  go_wp2_with fail
  refine (cnumr_calls (p := 0) HP.out HBY.out (Nat.zero_le _) HL.out 1).mono ?_
  rintro e w2 ⟨rfl, hp2, hk2⟩
  have hPA : IsR w2 (w.alloc (.cells #[.int .u64 0, .slice none 0 0] 25)).heap.size g bs ((aR bs).2.1 : Nat) (aR bs).2.2 := hp2
  have HPA := Lib.hid hPA
  have HK3 := Lib.hid (hk2.2.blk HK2.out (by have := HG.out; omega) (by simp))
  have HB3 := Lib.hid (HB2.out.trans (Below.mono hk2.1 HSZ.out))
  clear hp2 hk2 HK2 HB2 HP hPA
  rw [show (numR bs 0 0 1).1 = (aR bs).1 from rfl]
  obtain ⟨a1, ha1⟩ : ∃ a, (aR bs).1 = a := ⟨_, rfl⟩
  obtain ⟨a3, ha3⟩ : ∃ a, (aR bs).2.2 = a := ⟨_, rfl⟩
  rw [ha1]
  have HERR := Lib.hid (cerr_calls HPA.out)
  rw [ha3] at HERR
  by_cases hbad : badR bs = true
  · have hE : E = 3 := by rw [HE.out, if_pos hbad]
    have hS : S = 0 := by rw [HS.out, if_pos hbad]
    have hO : O = [] := by rw [HO.out, if_pos hbad]
    have c0 := blk_cell HK3.out 0
    have c1 := blk_cell HK3.out 1
    have f0 := blk_frozen HK3.out 0
    have f1 := blk_frozen HK3.out 1
    simp only [List.getElem?_toArray, List.getElem?_cons_zero, List.getElem?_cons_succ] at c0 c1
    have HR4 := Lib.hid (blk_set (blk_set HK3.out 0 (.int .u64 0)) 1 (.slice none 0 0))
    have HB4 := Lib.hid ((HB3.out.setCell (p := ⟨w.heap.size, 0, none⟩) (Nat.le_refl _) (.int .u64 0)).setCell (p := ⟨w.heap.size, 1, none⟩) (Nat.le_refl _) (.slice none 0 0))
    unfold badR at hbad
    rw [HN.out, ha1, ha3] at hbad
    have hway : n = 64 ∨ (n ≠ 64 ∧ a3 = 0 ∧ a1 ≠ 1) := by
      by_cases h64 : n = 64
      · exact .inl h64
      · rw [decide_eq_false h64, Bool.false_or, Bool.and_eq_true] at hbad
        exact .inr ⟨h64, by simpa using hbad.1, by simpa using hbad.2⟩
    clear hbad HE HS HO ha1 ha3 HN
    subst hE
    subst hS
    subst hO
    rcases hway with rfl | ⟨h64, rfl, h1⟩
    · go_wp2_with fail
      exact bodyPost_ret (results_ct rfl _ _ w.heap.size 25 #[.int .u64 0, .slice none 0 0] (0, 0) _ rfl HR4.out Tryd.underlying25 rfl (by kernel_rfl)) rfl ⟨_, rfl, Kd.R_nil _ _ _ _ _, HB4.out⟩
    · have n1 : ((n : Int) = 64) = False := eq_false (by omega)
      have n2 : ((n : Int) == 64) = false := by simp; omega
      have m1 : (a1 = 1) = False := eq_false h1
      have m2 : (a1 == 1) = false := by simpa using h1
      have m3 : (a1 != 1) = true := by simpa using h1
      clear h64 h1
      go_wp2_with fail
      refine HERR.out.mono ?_
      rintro e w3 ⟨rfl, rfl⟩
      go_wp2_with fail
      exact bodyPost_ret (results_ct rfl _ _ w.heap.size 25 #[.int .u64 0, .slice none 0 0] (0, 0) _ rfl HR4.out Tryd.underlying25 rfl (by kernel_rfl)) rfl ⟨_, rfl, Kd.R_nil _ _ _ _ _, HB4.out⟩
  · have hE : E = endE bs := by rw [HE.out, if_neg hbad]
    have hS : S = if endE bs = 0 then (sR bs).1 else 0 := by rw [HS.out, if_neg hbad]
    have hO : O = if endE bs = 0 then (oR bs).1 else [] := by rw [HO.out, if_neg hbad]
    have HE2 := Lib.hid hE
    have HS2 := Lib.hid hS
    have HO2 := Lib.hid hO
    unfold badR at hbad
    rw [HN.out, ha1, ha3] at hbad
    have h64 : n ≠ 64 := fun h => hbad (by rw [decide_eq_true h]; rfl)
    have hok : a3 ≠ 0 ∨ (a3 = 0 ∧ a1 = 1) := by
      by_cases h3 : a3 = 0
      · by_cases h1 : a1 = 1
        · exact .inr ⟨h3, h1⟩
        · exact absurd (by rw [decide_eq_true h3, decide_eq_true h1]; simp) hbad
      · exact .inl h3
    have n1 : ((n : Int) = 64) = False := eq_false (by omega)
    have n2 : ((n : Int) == 64) = false := by simp; omega
    have HOK := Lib.hid hok
    clear hE hS hO hbad HE HS HO h64 hok ha1 ha3
    go_wp2_with fail
    refine HERR.out.mono ?_
    rintro e w3 ⟨rfl, rfl⟩
    have hok : (a3 ≠ 0) ∨ (a3 = 0 ∧ a1 = 1) := HOK.out
    have HAR : Hid (IsR w2 (w.alloc (.cells #[.int .u64 0, .slice none 0 0] 25)).heap.size g bs ((aR bs).2.1 : Nat) (aR bs).2.2) := HPA
    cases hok
    case' inl h3 =>
      have m1 : (a3 = 0) = False := eq_false h3
      have m2 : (a3 == 0) = false := by simpa using h3
      clear h3 HOK
      go_wp2_with fail
    case' inr h3 =>
      obtain ⟨rfl, rfl⟩ := h3
      clear HOK
      go_wp2_with fail
    all_goals
      refine (cnumr_calls HAR.out HBY.out (aR_le bs) HL.out 8).mono ?_
      rintro e w4 ⟨rfl, hp4, hk4⟩
      have hPA : IsR w4 (w.alloc (.cells #[.int .u64 0, .slice none 0 0] 25)).heap.size g bs ((sR bs).2.1 : Nat) (sR bs).2.2 := hp4
      have HPS := Lib.hid hPA
      have HK4 := Lib.hid (hk4.2.blk HK3.out (by have := HG.out; omega) (by simp))
      have HB4 := Lib.hid (HB3.out.trans (Below.mono hk4.1 HSZ.out))
      rw [show (numR bs (aR bs).2.1 (aR bs).2.2 8).1 = (sR bs).1 from rfl]
      obtain ⟨s1, hs1⟩ : ∃ s, (sR bs).1 = s := ⟨_, rfl⟩
      rw [hs1]
      have HS1 := Lib.hid hs1
      clear hp4 hk4 hPA hs1 HB3 HK3 HERR HPA HAR
      have HT5 := Lib.hid (show IsT w (w4.alloc (.cells #[.int .u64 s1, .slice none 0 0] 25)) (w.alloc (.cells #[.int .u64 0, .slice none 0 0] 25)).heap.size g w.heap.size w4.heap.size bs (sR bs).2.1 (sR bs).2.2 s1 (.slice none 0 0) [] (fun _ => True) from
        ⟨sR_le bs, HPS.out.alloc _, by simpa using heap_alloc_new w4 _, Kd.R_nil _ _ _ _ _, blk_alloc HK4.out _, below_alloc HB4.out _, Nat.le_refl _, by have := HG.out; omega, HPS.out.lt, HSZ.out, HPS.out.1⟩)
      clear HPS HK4 HB4
      go_wp2_with fail
      refine (cvarr_calls HT5.out.2.1 HBY.out (sR_le bs) HL.out 8).mono ?_
      rintro e w6 ⟨rfl, hp6, hk6⟩
      have hT6 : IsT w w6 _ g w.heap.size w4.heap.size bs (nR bs).2.1 (nR bs).2.2 s1 (.slice none 0 0) [] (fun _ => True) := HT5.out.read hp6 hk6 (nR_pl bs)
      have HT6 := Lib.hid hT6
      rw [show (varR bs (sR bs).2.1 (sR bs).2.2 8).1 = (nR bs).1 from rfl]
      have hnl := nR_le HBY.out
      obtain ⟨m, hm⟩ : ∃ m, (nR bs).1 = m := ⟨_, rfl⟩
      rw [hm] at hnl ⊢
      have HM := Lib.hid hnl
      have HOR := Lib.hid (show oR bs = outsR bs m.toNat (nR bs).2.1 (nR bs).2.2 by rw [← hm]; rfl)
      obtain ⟨gt, hgt⟩ : ∃ g, w4.heap.size = g := ⟨_, rfl⟩
      rw [hgt] at HT6 ⊢
      obtain ⟨B, hB⟩ : ∃ B, (w.alloc (.cells #[.int .u64 0, .slice none 0 0] 25)).heap.size = B := ⟨_, rfl⟩
      rw [hB] at HT6
      clear hp6 hk6 hT6 HT5 hnl hm hgt hB
      go_wp2_with fail
      go_loopw [31] (fun i wr => ∃ k : Int, 0 ≤ k ∧ k ≤ m ∧ i = .int .u64 k ∧ Hid (∃ p e u acc, IsT w wr B g w.heap.size gt bs p e s1 u acc (fun _ => True) ∧ (acc.length : Int) = k ∧ oR bs = (acc ++ (outsR bs (m.toNat - k.toNat) p e).1, (outsR bs (m.toNat - k.toNat) p e).2))) (fun i _ => (m - intOf i).toNat)
      case atStart => exact ⟨0, by omega, HM.out.1, rfl, Lib.hid ⟨_, _, _, [], HT6.out, rfl, by rw [HOR.out]; rfl⟩⟩
      case round =>
        obtain ⟨k, hk0, hkm, rfl, H⟩ := hrel
        by_cases hlt : k < m
        · obtain ⟨p, e, u, acc, hT, hlen, hout⟩ := H.out
          have HT := Lib.hid hT
          have HLN := Lib.hid hlen
          have HOU := Lib.hid hout
          have HLT := Lib.hid hlt
          have wk : IntKind.u64.wrap (k + 1) = k + 1 := u64w_id (by omega) (by have := HM.out; omega)
          have wk2 : (k + 1) % 18446744073709551616 = k + 1 := by have := HM.out; omega
          clear hT hlen hout H
          go_wp2_with fail
          refine (cnumr_calls HT.out.2.1 HBY.out HT.out.1 HL.out 8).mono ?_
          rintro e w7 ⟨rfl, hp7, hk7⟩
          have HT7 := Lib.hid (HT.out.read hp7 hk7 (numR_le HT.out.1 _ _)).bound
          clear hp7 hk7
          obtain ⟨v1, hv1⟩ : ∃ v, (numR bs p e 8).1 = v := ⟨_, rfl⟩
          rw [hv1]
          have HV1 := Lib.hid hv1
          have HT8 := Lib.hid (HT7.out.alloc (.cells #[.int .u64 v1, .slice none 0 0] 46))
          have hnew : (w7.alloc (.cells #[.int .u64 v1, .slice none 0 0] 46)).heap[w7.heap.size]? = some (.cells #[.int .u64 v1, .slice none 0 0] 46 (0, 0)) := by simpa using heap_alloc_new w7 _
          have HNEW := Lib.hid hnew
          have HLG := Lib.hid (show gt < w7.heap.size from HT7.out.lt)
          clear hnew hv1
          go_wp2_with fail
          refine (ctextr_calls HT8.out.2.1 HBY.out HT8.out.1 HL.out 64 (by decide)).mono ?_
          rintro e w8 ⟨v2, rfl, hv2, hp8, hk8⟩
          have HT9 := Lib.hid (HT8.out.read hp8 hk8 (textR_le (numR_le HT.out.1 _ _) _ _))
          have HO8 := Lib.hid (hk8.2.blk HNEW.out (by have := HLG.out; have := HT.out.2.2.2.2.2.2.2.2.1; omega) (by simp))
          obtain ⟨A2, c2, hv2s⟩ := Kd.R_slice hv2
          subst hv2s
          have HV2 := Lib.hid hv2
          obtain ⟨txt, htxt⟩ : ∃ t, (textR bs (numR bs p e 8).2.1 (numR bs p e 8).2.2 64).1 = t := ⟨_, rfl⟩
          rw [htxt] at HV2 ⊢
          have HTXT := Lib.hid htxt
          obtain ⟨go, hgo⟩ : ∃ o, w7.heap.size = o := ⟨_, rfl⟩
          rw [hgo] at HO8 HLG HT9 ⊢
          have HGO := Lib.hid hgo
          have hsz8 : (w7.alloc (.cells #[.int .u64 v1, .slice none 0 0] 46)).heap.size = go + 1 := by rw [World.size_alloc, hgo]
          rw [hsz8] at HV2
          have c0 := blk_cell HO8.out 0
          have c1 := blk_cell HO8.out 1
          have f1 := blk_frozen HO8.out 1
          simp only [List.getElem?_toArray, List.getElem?_cons_zero, List.getElem?_cons_succ] at c0 c1
          have HO9 := Lib.hid (blk_set HO8.out 1 (.slice A2 txt.length c2))
          have HTA := Lib.hid (HT9.out.far (b := go) HLG.out (fun k hk => by have := hk.2; omega) 1 (.slice A2 txt.length c2))
          have HV9 := Lib.hid (Kd.R_set HV2.out HO8.out (by decide) 1 (.slice A2 txt.length c2))
          obtain ⟨l2, hl2⟩ : ∃ l, txt.length = l := ⟨_, rfl⟩
          rw [hl2] at HO9 HTA HV9 ⊢
          have d0 := blk_cell HTA.out.2.2.1 1
          have d1 := blk_cell HO9.out 0
          have d2 := blk_cell HO9.out 1
          simp only [List.getElem?_toArray, List.getElem?_cons_zero, List.getElem?_cons_succ] at d0
          replace d1 : (w8.setCell ⟨go, 1, none⟩ (.slice A2 l2 c2)).cell? ⟨go, 0, none⟩ = some (.int .u64 v1) := d1.trans rfl
          replace d2 : (w8.setCell ⟨go, 1, none⟩ (.slice A2 l2 c2)).cell? ⟨go, 1, none⟩ = some (.slice A2 l2 c2) := d2.trans rfl
          have hne : gt ≠ go := by have := HLG.out; omega
          clear hp8 hk8 hv2 htxt hgo hsz8 hl2
          have HV10 := Lib.hid (k46_mkM _ _ _ (⟨v1, txt⟩ : OutT) (Kd.R_lower (Kd.R_mono (Kd.R_bound HV9.out) (fun k hk => (⟨hk.2.1, hk.1⟩ : go + 1 ≤ k ∧ k ≠ g))) (show g + 1 ≤ go + 1 by have := HLG.out; have := HTA.out.2.2.2.2.2.2.2.2.1; omega)))
          have HRA := Lib.hid (Kd.R_mono HTA.out.2.2.2.1 (fun k hk => (hk.1 : k ≠ g)))
          have HAK := Lib.hid (show ∀ k, (go + 1 ≤ k ∧ k ≠ g) → k ≠ g ∧ some k ≠ u.ownBlock from fun k hk => ⟨hk.2, fun e => by
            have h2 := (HTA.out.2.2.2.1.1 k e.symm).2.2
            omega⟩)
          have HAF := Lib.hid (show ∀ k, (w8.setCell ⟨go, 1, none⟩ (.slice A2 l2 c2)).heap.size ≤ k → k ≠ g from fun k hk => by have := HTA.out.2.1.lt; omega)
          have HAS := Lib.hid (show g + 1 ≤ (w8.setCell ⟨go, 1, none⟩ (.slice A2 l2 c2)).heap.size from HTA.out.2.1.lt)
          have HAL := Lib.hid (show (acc.length + 1) * 32 ≤ 140737488355328 by have := HLN.out; have := HM.out; omega)
          have HV10' : Hid (k46.M (w8.setCell ⟨go, 1, none⟩ (.slice A2 l2 c2)) (g + 1) (fun k => go + 1 ≤ k ∧ k ≠ g) ⟨v1, txt⟩ [.int .u64 v1, .slice A2 l2 c2]) := HV10
          clear HV10
          go_wp2_with ((with_reducible refine gate_builtin (b := .append) (xs := #[.tmp 40, .tmp 42]) rfl ?_); at_builtin; refine Kd.R_append k46 (w0 := w8.setCell ⟨go, 1, none⟩ (.slice A2 l2 c2)) (g + 1) rfl (.tmp 40) (.tmp 42) 23 46 (.agg #[.int .u64 0, .slice none 0 0]) 32 rfl Tryd.underlying23 infoO rfl (by decide) (by decide) u acc (⟨v1, txt⟩ : OutT) [.int .u64 v1, .slice A2 l2 c2] (fun k => k ≠ g) (fun k => go + 1 ≤ k ∧ k ≠ g) rfl (by first | (go_simp; done) | (go_simp; rfl)) HV10'.out HAK.out HAF.out HRA.out (Below.refl _ _) HAS.out HAL.out ?_; intro v3 w9 ho hb hg hat; obtain ⟨z1, z2, hT9⟩ := HTA.out.push ho hb hg; generalize hacc : acc ++ [(⟨v1, txt⟩ : OutT)] = acc' at ho hT9; have HACC := Lib.hid hacc; clear hacc; obtain ⟨A4, c4, hv3⟩ := Kd.R_slice ho; subst hv3; have HT10 := Lib.hid hT9; clear ho hb hg hat hT9)
          go_roundw
          case rel => exact ⟨k + 1, by omega, by have := HLT.out; omega, by first | rw [wk] | rw [wk2] | (simp; done), Lib.hid ⟨_, _, _, acc', HT10.out, by rw [← HACC.out, List.length_append, Int.natCast_add, HLN.out]; rfl, by
            rw [← HACC.out, HOU.out, show m.toNat - k.toNat = (m.toNat - (k + 1).toNat) + 1 by have := HLT.out; omega]
            simp only [outsR, HV1.out, HTXT.out, List.append_assoc, List.cons_append, List.nil_append]⟩⟩
          case measure => simp [intOf, wk, wk2]; have := HLT.out; omega
        · obtain ⟨p, e, u, acc, hT, hlen, hout⟩ := H.out
          rw [show m.toNat - k.toNat = 0 by omega] at hout
          have hoR : oR bs = (acc, p, e) := by rw [hout]; simp [outsR]
          have hEE : endE bs = endR bs p e := by unfold endE; rw [hoR]
          have HT := Lib.hid hT
          have HOR2 := Lib.hid hoR
          have hE := HE2.out
          have hS := HS2.out
          have hO := HO2.out
          rw [hEE] at hE hS hO
          rw [hoR] at hO
          rw [HS1.out] at hS
          have HCE := Lib.hid (cend_calls HT.out.2.1 HT.out.1 HL.out)
          obtain ⟨x, hx⟩ : ∃ x, endR bs p e = x := ⟨_, rfl⟩
          rw [hx] at hE hS hO HCE
          clear hT hlen hout hoR hEE H HE2 HS2 HO2 hx
          subst hE
          go_wp2_with fail
          refine HCE.out.mono ?_
          rintro e' w7 ⟨rfl, hp7, hk7⟩
          have HT7 := Lib.hid (HT.out.read hp7 hk7 HT.out.1)
          have HSW := Lib.hid (show w.heap.size ≤ w.heap.size from Nat.le_refl _)
          have c0 := blk_cell HT7.out.2.2.2.2.1 0
          have c1 := blk_cell HT7.out.2.2.2.2.1 1
          have f0 := blk_frozen HT7.out.2.2.2.2.1 0
          have f1 := blk_frozen HT7.out.2.2.2.2.1 1
          have d0 := blk_cell HT7.out.2.2.1 0
          have d1 := blk_cell HT7.out.2.2.1 1
          simp only [List.getElem?_toArray, List.getElem?_cons_zero, List.getElem?_cons_succ] at c0 c1 d0 d1
          clear hp7 hk7 HCE
          by_cases hx0 : E = 0
          · rw [if_pos hx0] at hS hO
            subst hx0
            subst hS
            subst hO
            obtain ⟨A5, c5, hu⟩ := Kd.R_slice HT7.out.2.2.2.1
            subst hu
            have HR8 := Lib.hid (blk_set (blk_set HT7.out.2.2.2.2.1 0 (.int .u64 S)) 1 (.slice A5 O.length c5))
            have HB8 := Lib.hid ((HT7.out.2.2.2.2.2.1.setCell (p := ⟨w.heap.size, 0, none⟩) (Nat.le_refl _) (.int .u64 S)).setCell (p := ⟨w.heap.size, 1, none⟩) (Nat.le_refl _) (.slice A5 O.length c5))
            have HV8 := Lib.hid (Kd.R_set (Kd.R_set HT7.out.2.2.2.1 HT7.out.2.2.2.2.1 (by decide) 0 (.int .u64 S)) (blk_set HT7.out.2.2.2.2.1 0 (.int .u64 S)) (by decide) 1 (.slice A5 O.length c5))
            have HGW := Lib.hid (show w.heap.size ≤ g + 1 by have := HT7.out.2.2.2.2.2.2.2.1; omega)
            have hne : gt ≠ w.heap.size := by have := HT7.out.2.2.2.2.2.2.2.2.1; have := HT7.out.2.2.2.2.2.2.2.1; omega
            go_wp2_with fail
            exact bodyPost_ret (results_ct rfl _ _ w.heap.size 25 #[.int .u64 S, .slice A5 O.length c5] (0, 0) _ rfl HR8.out Tryd.underlying25 rfl (by kernel_rfl)) rfl ⟨_, rfl, Kd.R_lower (Kd.R_mono HV8.out (fun _ _ => trivial)) HGW.out, HB8.out⟩
          · rw [if_neg hx0] at hS hO
            have x1 : (E = 0) = False := eq_false hx0
            have x2 : (E == 0) = false := by simpa using hx0
            have x3 : (E != 0) = true := by simpa using hx0
            subst hS
            subst hO
            have HR8 := Lib.hid (blk_set (blk_set HT7.out.2.2.2.2.1 0 (.int .u64 0)) 1 (.slice none 0 0))
            have HB8 := Lib.hid ((HT7.out.2.2.2.2.2.1.setCell (p := ⟨w.heap.size, 0, none⟩) (Nat.le_refl _) (.int .u64 0)).setCell (p := ⟨w.heap.size, 1, none⟩) (Nat.le_refl _) (.slice none 0 0))
            clear hx0
            go_wp2_with fail
            exact bodyPost_ret (results_ct rfl _ _ w.heap.size 25 #[.int .u64 0, .slice none 0 0] (0, 0) _ rfl HR8.out Tryd.underlying25 rfl (by kernel_rfl)) rfl ⟨_, rfl, Kd.R_nil _ _ _ _ _, HB8.out⟩
end Go.Proofs.YtpjkhecefppamaaDoor.Hand
