/- A header's Parse: walked. -/
import Derived.Test.YtfcmdhimlfoofaaProg
import Derived.Below
import Derived.Deep.Draws
import Derived.Deep.AppendLies
import Derived.Maps.AppendAt
import Derived.OwnWalk
import Derived.Laws.BytesArg
import Derived.Laws.MakeOwn
import Derived.Laws.OwnMore
import Derived.Deep.OwnRows
import Derived.Tactics
import Derived.Lib.ConvBytes
import Derived.Laws.Slices
import Derived.WalkKit
import Derived.KernelRfl
import Derived.RowKit3
import Derived.Deep.LoopGhost
import Derived.Deep.QuietTactic
import Derived.BigQuiet
import Derived.WideLaws
import Derived.Deep.DeepCutAuto
import Derived.Deep.CutBlock
import Derived.Deep.RegionHeld3
import Derived.Laws.Rows
import Derived.Lib.AppendStr
import Derived.ArgAppend
import Derived.Laws.IdiomCopy
import Derived.OrdersHeld
import Derived.Laws.BitsLemmas
import Derived.RowKit
import Derived.StillTailTactics
import Derived.Test.YtfcmdhimlfoofaaWWords
import Derived.Test.YtfcmdhimlfoofaaWLast
import Derived.Test.YtfcmdhimlfoofaaWMore
import Derived.Lib.Hide
import Derived.LaidEql
import Derived.Outline
import Derived.Deep.WholeRow
import Derived.Test.YtfcmdhimlfoofaaCells
import Derived.Test.YtfcmdhimlfoofaaHash
namespace Go.Proofs.Ytfcmdhimlfoofaa.Hand
open Go Go.RowKit Go.Proofs.Ytfcmdhimlfoofaa.Plain Go.Proofs.Ytfcmdhimlfoofaa.PAll Go.Proofs.YtfcmdhimlfoofaaW.PrintWords Go.Proofs.YtfcmdhimlfoofaaW.PrintLast Go.Proofs.YtfcmdhimlfoofaaW.PrintMore
set_option linter.unusedVariables false
set_option linter.unusedSimpArgs false
set_option maxRecDepth 100000
def h1R (bs : List Int) : Int × Nat × Int := numR bs 0 0 4
def h2R (bs : List Int) : List Int × Nat × Int := hashR bs (h1R bs).2.1 (h1R bs).2.2
def h3R (bs : List Int) : List Int × Nat × Int := hashR bs (h2R bs).2.1 (h2R bs).2.2
def h4R (bs : List Int) : Int × Nat × Int := numR bs (h3R bs).2.1 (h3R bs).2.2 4
def h5R (bs : List Int) : Int × Nat × Int := numR bs (h4R bs).2.1 (h4R bs).2.2 4
def h6R (bs : List Int) : Int × Nat × Int := numR bs (h5R bs).2.1 (h5R bs).2.2 4
def headE (bs : List Int) : Int := endR bs (h6R bs).2.1 (h6R bs).2.2
theorem hashR_le {bs : List Int} {p : Nat} (hp : p ≤ bs.length) (x : Int) : (hashR bs p x).2.1 ≤ bs.length := takeR_le hp _ _
theorem hashR_len (bs : List Int) (p : Nat) (x : Int) : (hashR bs p x).1.length = 32 := by
  unfold hashR
  split
  · assumption
  · simp
theorem hcells_one1 (v : Int) (p r : List Int) (t b n : Int) : ∀ x ∈ hcells v p r t b n, x.oneCell' = true := by
  intro x hx
  simp only [hcells, List.mem_cons, List.mem_append, List.not_mem_nil, or_false] at hx
  rcases hx with rfl | hx | hx | rfl | rfl | rfl
  · rfl
  · exact nums_one _ _ _ hx
  · exact nums_one _ _ _ hx
  · rfl
  · rfl
  · rfl
theorem hsize (v : Int) (p r : List Int) (t b n : Int) (hp : p.length = 32) (hr : r.length = 32) : (Try.prog.info? 54).map (·.size) = some (hcells v p r t b n).toArray.size := by
  rw [(zero_of_info infoH).2]
  simp [hcells_len v p r t b n hp hr]
set_option maxHeartbeats 4000000 in
set_option maxRecDepth 100000 in
theorem hparse_calls (A : Option Addr) (c : Nat) (bs : List Int) (w : World) (hr : Kd.C (Kd.int .u8) w A bs.length bs) (hc : bs.length ≤ c) (hb : ∀ x ∈ bs, 0 ≤ x ∧ x < 256) (hl : bs.length ≤ 100000000) :
    Calls Try.prog 56 #[.slice A bs.length c] w fun e w' => e = .returned (.tuple #[if headE bs = 0 then hV ((h1R bs).1 % 4294967296) (h2R bs).1 (h3R bs).1 ((h4R bs).1 % 4294967296) ((h5R bs).1 % 4294967296) ((h6R bs).1 % 4294967296) else hV 0 z32 z32 0 0 0, .int .i64 (headE bs)]) ∧ Below w.heap.size w w' := by
  have HR := Lib.hid hr
  have HC := Lib.hid hc
  have HBY := Lib.hid hb
  have HL := Lib.hid hl
  obtain ⟨n, hn⟩ : ∃ n, bs.length = n := ⟨_, rfl⟩
  have HN := Lib.hid hn
  rw [hn]
  obtain ⟨E, hE⟩ : ∃ E, headE bs = E := ⟨_, rfl⟩
  rw [hE]
  obtain ⟨RV, hRV⟩ : ∃ RV, (if E = 0 then hV ((h1R bs).1 % 4294967296) (h2R bs).1 (h3R bs).1 ((h4R bs).1 % 4294967296) ((h5R bs).1 % 4294967296) ((h6R bs).1 % 4294967296) else hV 0 z32 z32 0 0 0) = RV := ⟨_, rfl⟩
  rw [hRV]
  have HE := Lib.hid hE
  have HRV := Lib.hid hRV
  have hz := (zero_of_info infoH).1
  obtain ⟨Z, hZ⟩ : ∃ Z, (hcells 0 z32 z32 0 0 0).toArray = Z := ⟨_, rfl⟩
  rw [hZ] at hz
  have HZ := Lib.hid hZ
  clear hr hc hb hl hZ hE hRV
  go_enter Try.func56, Try.ntmps56
  go_wp2_with fail
  have HB1 := Lib.hid (below_alloc (Below.refl w.heap.size w) (.cells Z 54))
  have HK1 := Lib.hid (show (w.alloc (.cells Z 54)).heap[w.heap.size]? = some (.cells Z 54 (0, 0)) by simpa using heap_alloc_new w _)
  refine (cof_calls A n c bs _ hn.symm (Kd.C_below HR.out HB1.out) HC.out (by have := HL.out; omega)).mono ?_
  rintro e w1 ⟨g, rfl, hg1, hp1, hb1⟩
  have HP := Lib.hid hp1
  have HB2 := Lib.hid (HB1.out.trans (Below.mono hb1 HB1.out.size))
  have HK2 := Lib.hid ((hb1.block w.heap.size (blk_lt HK1.out)).trans HK1.out)
  have HNE := Lib.hid (show w.heap.size ≠ g by rw [World.size_alloc] at hg1; omega)
  have HSZ := Lib.hid (show w.heap.size ≤ (w.alloc (.cells Z 54)).heap.size from HB1.out.size)
  obtain ⟨B, hB⟩ : ∃ B, (w.alloc (.cells Z 54)).heap.size = B := ⟨_, rfl⟩
  rw [hB] at HP HSZ
  clear hp1 hb1 hg1 HB1 HK1 hn hB
  go_wp2_with fail
  refine (cnumr_calls (p := 0) HP.out HBY.out (Nat.zero_le _) HL.out 4).mono ?_
  rintro e w2 ⟨rfl, hp2, hk2⟩
  have HP2 : Hid (IsR w2 B g bs ((h1R bs).2.1 : Nat) (h1R bs).2.2) := Lib.hid hp2
  have HK3 := Lib.hid (hk2.2.blk HK2.out HNE.out (by simp))
  have HB3 := Lib.hid (HB2.out.trans (Below.mono hk2.1 HSZ.out))
  rw [show (numR bs 0 0 4).1 = (h1R bs).1 from rfl]
  obtain ⟨v1, hv1⟩ : ∃ v, (h1R bs).1 = v := ⟨_, rfl⟩
  rw [hv1]
  have HV1 := Lib.hid hv1
  obtain ⟨V1, hV1⟩ : ∃ V, v1 % 4294967296 = V := ⟨_, rfl⟩
  clear hp2 hk2 HK2 HB2 HP hv1
  go_wp2_with fail
  refine (chash_calls HP2.out (numR_le (Nat.zero_le _) _ _) HL.out).mono ?_
  rintro e w3 ⟨rfl, hp3, hk3⟩
  have HP3 : Hid (IsR w3 B g bs ((h2R bs).2.1 : Nat) (h2R bs).2.2) := Lib.hid hp3
  have HK4 := Lib.hid (hk3.2.blk HK3.out HNE.out (by simp))
  have HB4 := Lib.hid (HB3.out.trans (Below.mono hk3.1 HSZ.out))
  rw [show (hashR bs (h1R bs).2.1 (h1R bs).2.2).1 = (h2R bs).1 from rfl]
  have H2L := Lib.hid (show (h2R bs).1.length = 32 from hashR_len _ _ _)
  have H2P := Lib.hid (show (h2R bs).2.1 ≤ bs.length from hashR_le (numR_le (Nat.zero_le _) _ _) _)
  clear hp3 hk3 HK3 HB3 HP2
  go_wp2_with fail
  refine (chash_calls HP3.out H2P.out HL.out).mono ?_
  rintro e w4 ⟨rfl, hp4, hk4⟩
  have HP4 : Hid (IsR w4 B g bs ((h3R bs).2.1 : Nat) (h3R bs).2.2) := Lib.hid hp4
  have HK5 := Lib.hid (hk4.2.blk HK4.out HNE.out (by simp))
  have HB5 := Lib.hid (HB4.out.trans (Below.mono hk4.1 HSZ.out))
  rw [show (hashR bs (h2R bs).2.1 (h2R bs).2.2).1 = (h3R bs).1 from rfl]
  have H3L := Lib.hid (show (h3R bs).1.length = 32 from hashR_len _ _ _)
  have H3P := Lib.hid (show (h3R bs).2.1 ≤ bs.length from hashR_le H2P.out _)
  obtain ⟨p2, hp2'⟩ : ∃ v, (h2R bs).1 = v := ⟨_, rfl⟩
  obtain ⟨p3, hp3'⟩ : ∃ v, (h3R bs).1 = v := ⟨_, rfl⟩
  rw [hp2', hp3']
  rw [hp2'] at H2L
  rw [hp3'] at H3L
  have HP2' := Lib.hid hp2'
  have HP3' := Lib.hid hp3'
  have hbuilt := built_head V1 p2 p3 H2L.out H3L.out
  have hsz1 := hsize V1 p2 p3 0 0 0 H2L.out H3L.out
  have hzs : Z.size = (hcells V1 p2 p3 0 0 0).toArray.size := by rw [← HZ.out]; simp [hcells_len, H2L.out, H3L.out]; rw [hcells_len _ _ _ _ _ _ (by decide) (by decide)]
  have hone := all_oneCell_toArray (hcells_one1 V1 p2 p3 0 0 0)
  obtain ⟨C1, hC1⟩ : ∃ C, (hcells V1 p2 p3 0 0 0).toArray = C := ⟨_, rfl⟩
  rw [hC1] at hbuilt hsz1 hzs hone
  have HC1 := Lib.hid hC1
  obtain ⟨q2, hq2⟩ : ∃ q, hashV p2 = q := ⟨_, rfl⟩
  obtain ⟨q3, hq3⟩ : ∃ q, hashV p3 = q := ⟨_, rfl⟩
  rw [show (Value.agg (nums .u8 p2).toArray) = q2 from hq2, show (Value.agg (nums .u8 p3).toArray) = q3 from hq3] at hbuilt
  rw [hq2, hq3]
  have HBUILT := Lib.hid hbuilt
  have HS1 := Lib.hid hsz1
  have HZS := Lib.hid hzs
  have HONE := Lib.hid hone
  clear hp4 hk4 HK4 HB4 HP3 hp2' hp3' hC1 hq2 hq3 hbuilt hsz1 hzs hone
  go_wp2_with (first | (refine wpl_build rfl 54 _ rfl #[(0, .int .u32 V1), (1, q2), (2, q3)] (by first | rfl | (simp [Act.eval]; done) | (go_simp; done)) C1 HBUILT.out ?_) | (refine wpl_store_new rfl 54 (.tmp 5) (.tmp 16) rfl Z C1 rfl rfl HS1.out HZS.out HONE.out ?_))
  have HK6 := Lib.hid (blk_alloc HK5.out (.cells C1 54))
  have HB6 := Lib.hid (below_alloc HB5.out (.cells C1 54))
  have HH6 := Lib.hid (show (w4.alloc (.cells C1 54)).heap[w4.heap.size]? = some (.cells C1 54 (0, 0)) by simpa using heap_alloc_new w4 _)
  have HP6 := Lib.hid (HP4.out.alloc (.cells C1 54))
  have HGH := Lib.hid (show g < w4.heap.size from HP4.out.lt)
  clear HK5 HB5 HP4
  refine (cnumr_calls HP6.out HBY.out H3P.out HL.out 4).mono ?_
  rintro e w7 ⟨rfl, hp7, hk7⟩
  have HP7 : Hid (IsR w7 B g bs ((h4R bs).2.1 : Nat) (h4R bs).2.2) := Lib.hid hp7
  have HK7 := Lib.hid (hk7.2.blk HK6.out HNE.out (by simp))
  have HH7 := Lib.hid (hk7.2.blk HH6.out (by have := HGH.out; omega) (by simp))
  have HB7 := Lib.hid (HB6.out.trans (Below.mono hk7.1 HSZ.out))
  have H4P := Lib.hid (show (h4R bs).2.1 ≤ bs.length from numR_le H3P.out _ _)
  rw [show (numR bs (h3R bs).2.1 (h3R bs).2.2 4).1 = (h4R bs).1 from rfl]
  obtain ⟨v4, hv4⟩ : ∃ v, (h4R bs).1 = v := ⟨_, rfl⟩
  rw [hv4]
  have HV4 := Lib.hid hv4
  obtain ⟨V4, hV4⟩ : ∃ V, v4 % 4294967296 = V := ⟨_, rfl⟩
  clear hp7 hk7 HK6 HB6 HH6 HP6 hv4
  go_wp2_with fail
  refine (cnumr_calls HP7.out HBY.out H4P.out HL.out 4).mono ?_
  rintro e w8 ⟨rfl, hp8, hk8⟩
  have HP8 : Hid (IsR w8 B g bs ((h5R bs).2.1 : Nat) (h5R bs).2.2) := Lib.hid hp8
  have HK8 := Lib.hid (hk8.2.blk HK7.out HNE.out (by simp))
  have HH8 := Lib.hid (hk8.2.blk HH7.out (by have := HGH.out; omega) (by simp))
  have HB8 := Lib.hid (HB7.out.trans (Below.mono hk8.1 HSZ.out))
  have H5P := Lib.hid (show (h5R bs).2.1 ≤ bs.length from numR_le H4P.out _ _)
  rw [show (numR bs (h4R bs).2.1 (h4R bs).2.2 4).1 = (h5R bs).1 from rfl]
  obtain ⟨v5, hv5⟩ : ∃ v, (h5R bs).1 = v := ⟨_, rfl⟩
  rw [hv5]
  have HV5 := Lib.hid hv5
  obtain ⟨V5, hV5⟩ : ∃ V, v5 % 4294967296 = V := ⟨_, rfl⟩
  clear hp8 hk8 HK7 HB7 HH7 HP7 hv5
  go_wp2_with fail
  refine (cnumr_calls HP8.out HBY.out H5P.out HL.out 4).mono ?_
  rintro e w9 ⟨rfl, hp9, hk9⟩
  have HP9 : Hid (IsR w9 B g bs ((h6R bs).2.1 : Nat) (h6R bs).2.2) := Lib.hid hp9
  have HK9 := Lib.hid (hk9.2.blk HK8.out HNE.out (by simp))
  have HH9 := Lib.hid (hk9.2.blk HH8.out (by have := HGH.out; omega) (by simp))
  have HB9 := Lib.hid (HB8.out.trans (Below.mono hk9.1 HSZ.out))
  have H6P := Lib.hid (show (h6R bs).2.1 ≤ bs.length from numR_le H5P.out _ _)
  rw [show (numR bs (h5R bs).2.1 (h5R bs).2.2 4).1 = (h6R bs).1 from rfl]
  obtain ⟨v6, hv6⟩ : ∃ v, (h6R bs).1 = v := ⟨_, rfl⟩
  rw [hv6]
  have HV6 := Lib.hid hv6
  obtain ⟨V6, hV6⟩ : ∃ V, v6 % 4294967296 = V := ⟨_, rfl⟩
  obtain ⟨gh, hgh⟩ : ∃ b, w4.heap.size = b := ⟨_, rfl⟩
  rw [hgh] at HH9 HGH ⊢
  obtain ⟨a5, a6, a7⟩ := hcells_at V1 p2 p3 0 0 0 H2L.out H3L.out
  rw [HC1.out] at a5 a6 a7
  have c5 := (blk_cell HH9.out 65).trans a5
  have c6 := (blk_cell HH9.out 66).trans a6
  have c7 := (blk_cell HH9.out 67).trans a7
  have f5 := blk_frozen HH9.out 65
  have f6 := blk_frozen HH9.out 66
  have f7 := blk_frozen HH9.out 67
  have hset := hcells_set V1 p2 p3 V4 V5 V6 H2L.out H3L.out
  rw [HC1.out] at hset
  obtain ⟨W9, hW9⟩ : ∃ W, ((w9.setCell ⟨gh, 65, none⟩ (.int .u32 V4)).setCell ⟨gh, 66, none⟩ (.int .u32 V5)).setCell ⟨gh, 67, none⟩ (.int .u32 V6) = W := ⟨_, rfl⟩
  have HHS : Hid (W9.heap[gh]? = some (.cells (hcells V1 p2 p3 V4 V5 V6).toArray 54 (0, 0))) := Lib.hid (by rw [← hW9, ← hset]; exact blk_set (blk_set (blk_set HH9.out 65 _) 66 _) 67 _)
  have HBS : Hid (Below (g + 1) w9 W9) := Lib.hid (by rw [← hW9]; exact (((Below.refl _ _).setCell (p := ⟨gh, 65, none⟩) (by have := HGH.out; show g + 1 ≤ gh; omega) _).setCell (p := ⟨gh, 66, none⟩) (by have := HGH.out; show g + 1 ≤ gh; omega) _).setCell (p := ⟨gh, 67, none⟩) (by have := HGH.out; show g + 1 ≤ gh; omega) _)
  have hgr : w.heap.size < g + 1 := by have := HP9.out.1; have := HSZ.out; omega
  have HKS : Hid (W9.heap[w.heap.size]? = some (.cells Z 54 (0, 0))) := Lib.hid ((HBS.out.block w.heap.size hgr).trans HK9.out)
  have HPS := Lib.hid (HP9.out.below HBS.out (by omega))
  have HBW := Lib.hid (HB9.out.trans (Below.mono HBS.out (by omega)))
  have HW9 := Lib.hid hW9
  obtain ⟨CF, hCF⟩ : ∃ C, (hcells V1 p2 p3 V4 V5 V6).toArray = C := ⟨_, rfl⟩
  rw [hCF] at HHS
  have HCF := Lib.hid hCF
  clear hp9 hk9 HK8 HB8 HH8 HP8 hv6 hgh a5 a6 a7 hset hgr hW9 hCF
  go_wp2_with fail
  rw [HW9.out]
  have HCE := Lib.hid (cend_calls HPS.out H6P.out HL.out)
  rw [show endR bs (h6R bs).2.1 (h6R bs).2.2 = headE bs from rfl, HE.out] at HCE
  refine HCE.out.mono ?_
  rintro e w10 ⟨rfl, hp10, hk10⟩
  have HK10 := Lib.hid (hk10.2.blk HKS.out HNE.out (by simp))
  have HH10 := Lib.hid (hk10.2.blk HHS.out (by have := HGH.out; omega) (by simp))
  have HB10 := Lib.hid (HBW.out.trans (Below.mono hk10.1 HSZ.out))
  have HU := Lib.hid Try.underlying54
  clear hp10 hk10 c5 c6 c7 f5 f6 f7 HCE HBUILT
  by_cases h0 : E = 0
  · have HSF := Lib.hid (show (Try.prog.info? 54).map (·.size) = some CF.size by rw [← HCF.out]; exact hsize _ _ _ _ _ _ H2L.out H3L.out)
    have HZF := Lib.hid (show Z.size = CF.size by rw [← HZ.out, ← HCF.out]; simp [hcells_len, H2L.out, H3L.out]; rw [hcells_len _ _ _ _ _ _ (by decide) (by decide)])
    have HOF := Lib.hid (show CF.all (·.oneCell') = true by rw [← HCF.out]; exact all_oneCell_toArray (hcells_one1 _ _ _ _ _ _))
    have hRF : RV = .agg CF := by rw [← HRV.out, if_pos h0, hV, HV1.out, HP2'.out, HP3'.out, HV4.out, HV5.out, HV6.out, hV1, hV4, hV5, hV6, HCF.out]
    clear HRV HE
    subst h0
    subst hRF
    go_wp2_with (first | (refine wpList_load_row rfl 54 (.tmp 5) rfl gh rfl 54 CF (0, 0) _ HH10.out HU.out rfl HSF.out ?_) | (refine wpList_store_row rfl 54 (.tmp 2) (.tmp 35) rfl w.heap.size CF rfl rfl 54 Z HK10.out HSF.out HZF.out HOF.out ?_))
    exact bodyPost_ret (results_ct rfl _ _ w.heap.size 54 CF (0, 0) _ rfl (setRow_heap _ _ _ _ _ _ HK10.out) HU.out rfl HSF.out) rfl ⟨rfl, below_setRow HB10.out (Nat.le_refl _) _⟩
  · have x1 : (E = 0) = False := eq_false h0
    have x2 : (E == 0) = false := by simpa using h0
    have x3 : (E != 0) = true := by simpa using h0
    have HBZ := Lib.hid built_zero
    rw [HZ.out] at HBZ
    have HSF := Lib.hid (show (Try.prog.info? 54).map (·.size) = some Z.size by rw [← HZ.out]; exact hsize _ _ _ _ _ _ (by decide) (by decide))
    have HOF := Lib.hid (show Z.all (·.oneCell') = true by rw [← HZ.out]; exact all_oneCell_toArray (hcells_one1 _ _ _ _ _ _))
    have hRF : RV = .agg Z := by rw [← HRV.out, if_neg h0, hV, HZ.out]
    clear h0 HRV
    subst hRF
    go_wp2_with (first | (refine wpl_build rfl 54 _ rfl #[] (by first | rfl | (simp [Act.eval]; done) | (go_simp; done)) Z HBZ.out ?_) | (refine wpList_store_row rfl 54 (.tmp 2) (.tmp 33) rfl w.heap.size Z rfl rfl 54 Z HK10.out HSF.out rfl HOF.out ?_))
    exact bodyPost_ret (results_ct rfl _ _ w.heap.size 54 Z (0, 0) _ rfl (setRow_heap _ _ _ _ _ _ HK10.out) HU.out rfl HSF.out) rfl ⟨rfl, below_setRow HB10.out (Nat.le_refl _) _⟩
end Go.Proofs.Ytfcmdhimlfoofaa.Hand
