/- Several texts in one. -/
import Derived.Test.YtlmcdkjobdcflaaDoorProg
import Derived.Below
import Derived.Deep.Draws
import Derived.Deep.AppendLies
import Derived.Maps.AppendAt
import Derived.OwnWalk
import Derived.Laws.BytesArg
import Derived.Laws.MakeOwn
import Derived.Laws.OwnMore
import Derived.Deep.OwnRows
import Derived.Tactics
import Derived.Lib.ConvBytes
import Derived.Laws.Slices
import Derived.WalkKit
import Derived.KernelRfl
import Derived.RowKit3
import Derived.Deep.LoopGhost
import Derived.Deep.QuietTactic
import Derived.BigQuiet
import Derived.WideLaws
import Derived.Deep.DeepCutAuto
import Derived.Deep.CutBlock
import Derived.Deep.RegionHeld3
import Derived.Laws.Rows
import Derived.Lib.AppendStr
import Derived.ArgAppend
import Derived.Laws.IdiomCopy
import Derived.OrdersHeld
import Derived.Laws.BitsLemmas
import Derived.RowKit
import Derived.StillTailTactics
import Derived.Test.YtlmcdkjobdcflaaDoorWWords
import Derived.Test.YtlmcdkjobdcflaaDoorWLast
import Derived.Test.YtlmcdkjobdcflaaDoorWMore
import Derived.Lib.Hide
import Derived.Outline
import Derived.Deep.MidRow
import Derived.Deep.WholeRow
import Derived.Deep.DrawnRows
import Derived.Test.YtlmcdkjobdcflaaDoorDepth
import Derived.Test.YtlmcdkjobdcflaaDoorMerkA
import Derived.Test.YtlmcdkjobdcflaaDoorArrEq
/- The document's pair, and its node of a level: walked. -/
namespace Go.Proofs.YtlmcdkjobdcflaaDoor.Hand
open Go Go.RowKit Go.Proofs.YtlmcdkjobdcflaaDoor.Plain Go.Proofs.YtlmcdkjobdcflaaDoor.PAll Go.Proofs.YtlmcdkjobdcflaaDoorW.PrintWords Go.Proofs.YtlmcdkjobdcflaaDoorW.PrintLast Go.Proofs.YtlmcdkjobdcflaaDoorW.PrintMore
set_option linter.unusedVariables false
set_option linter.unusedSimpArgs false
set_option maxRecDepth 100000
attribute [local go_sem ↓] Go.wp_at_zero Go.wp_at_succ
attribute [-go_sem] loadVar storeVar Instr.buildSlice
theorem str_append (a b : List Int) : strOfNums (a ++ b) = strOfNums a ++ strOfNums b := by
  apply ByteArray.ext
  simp [strOfNums, ByteArray.data_append]
theorem below_of_drew {w w1 : World} (h : Below w.drew.heap.size w.drew w1) : Below w.heap.size w w1 := (below_drew (Below.refl _ w)).trans h
theorem setRow_alloc_end (w : World) (c c' : Array Value) (t : TypeId) : (w.alloc (.cells c t)).setRow w.heap.size c' = w.alloc (.cells c' t) := World.setRow_alloc_new w c c' t
set_option maxHeartbeats 2000000 in
theorem rpair_calls (p q : List Int) (w : World) (hp : p.length = 32) (hq : q.length = 32) (hpb : ∀ x ∈ p, 0 ≤ x ∧ x < 256) (hqb : ∀ x ∈ q, 0 ≤ x ∧ x < 256) :
    Calls Tryd.prog 24 #[.agg (nums .u8 p).toArray, .agg (nums .u8 q).toArray] w fun e w' => e = .returned (.agg (nums .u8 (twiceP (p ++ q))).toArray) ∧ Below w.heap.size w w' := by
  have HZ := (zero_of_info info32b).1
  obtain ⟨Z, hZ⟩ : ∃ C, nums .u8 (List.replicate 32 0) = C := ⟨_, rfl⟩
  have hZl : Z.length = 32 := by rw [← hZ]; rfl
  rw [hZ] at HZ
  have HT := Lib.hid (fun u => rtwice_calls (p ++ q) u (by simp [hp, hq]) (by
    intro x hx
    rcases List.mem_append.1 hx with h | h
    · exact hpb x h
    · exact hqb x h))
  have hadd : strOfNums p ++ strOfNums q = strOfNums (p ++ q) := (str_append p q).symm
  have hs1 := strOfNums_size p
  have hs2 := strOfNums_size q
  obtain ⟨W, hW⟩ : ∃ W, ((w.alloc (.cells (nums .u8 p).toArray 24)).alloc (.cells (nums .u8 q).toArray 24)).alloc (.cells Z.toArray 24) = W := ⟨_, rfl⟩
  have hWs : W.heap.size = w.heap.size + 3 := by rw [← hW]; simp
  have hWb : Below w.heap.size w W := by rw [← hW]; exact below_alloc (below_alloc (below_alloc (Below.refl _ _) _) _) _
  have hk0 : W.heap[w.heap.size]? = some (.cells (nums .u8 p).toArray 24 (0, 0)) := by rw [← hW]; exact blk_alloc (blk_alloc (heap_alloc_new w _) _) _
  have hk1 : W.heap[w.heap.size + 1]? = some (.cells (nums .u8 q).toArray 24 (0, 0)) := by
    rw [← hW]
    refine blk_alloc ?_ _
    have h := heap_alloc_new (w.alloc (.cells (nums .u8 p).toArray 24)) (.cells (nums .u8 q).toArray 24)
    rwa [World.size_alloc] at h
  have hk2 : W.heap[w.heap.size + 1 + 1]? = some (.cells Z.toArray 24 (0, 0)) := by
    rw [← hW]
    have h := heap_alloc_new ((w.alloc (.cells (nums .u8 p).toArray 24)).alloc (.cells (nums .u8 q).toArray 24)) (.cells Z.toArray 24)
    simpa using h
  have HSS := Lib.hid (show ∀ u : World, Below (w.heap.size + 2) W u → (convert 33 9 (.slice (some ⟨w.heap.size, 0, none⟩) 32 32)).run Tryd.prog u = .ok (.string (strOfNums p)) u ∧ (convert 33 9 (.slice (some ⟨w.heap.size + 1, 0, none⟩) 32 32)).run Tryd.prog u = .ok (.string (strOfNums q)) u from fun u hu => by
    constructor
    · have hC := C_of_block (pre := []) (post := []) (k := .u8) (ys := p) (o := 0) (t := 24) (fr := (0, 0)) (w := u) (b := w.heap.size) (by rw [List.nil_append, List.append_nil]; exact (hu.block _ (by omega)).trans hk0) rfl (by rw [hp]; decide)
      have h := Kd.C_string (P := Tryd.prog) (c := 32) Tryd.underlying33 Tryd.underlying5 Tryd.underlying9 hC
      rwa [hp] at h
    · have hC := C_of_block (pre := []) (post := []) (k := .u8) (ys := q) (o := 0) (t := 24) (fr := (0, 0)) (w := u) (b := w.heap.size + 1) (by rw [List.nil_append, List.append_nil]; exact (hu.block _ (by omega)).trans hk1) rfl (by rw [hq]; decide)
      have h := Kd.C_string (P := Tryd.prog) (c := 32) Tryd.underlying33 Tryd.underlying5 Tryd.underlying9 hC
      rwa [hq] at h)
  obtain ⟨P, hP⟩ : ∃ P, (nums .u8 p).toArray = P := ⟨_, rfl⟩
  obtain ⟨Q, hQ⟩ : ∃ P, (nums .u8 q).toArray = P := ⟨_, rfl⟩
  have hRl : (nums .u8 (twiceP (p ++ q))).length = 32 := by rw [nums_len]; exact twiceP_len _
  have hR1 := nums_one .u8 (twiceP (p ++ q))
  obtain ⟨R, hR⟩ : ∃ P, nums .u8 (twiceP (p ++ q)) = P := ⟨_, rfl⟩
  rw [hR] at hRl hR1 HT
  rw [hP, hQ] at hW
  rw [hP, hQ, hR]
  obtain ⟨T1, hT1⟩ : ∃ T, strOfNums p = T := ⟨_, rfl⟩
  obtain ⟨T2, hT2⟩ : ∃ T, strOfNums q = T := ⟨_, rfl⟩
  obtain ⟨T3, hT3⟩ : ∃ T, strOfNums (p ++ q) = T := ⟨_, rfl⟩
  rw [hT1] at HSS hadd hs1
  rw [hT2] at HSS hadd hs2
  rw [hT3] at HT hadd
  have hle : (9223372036854775807 < T1.size + T2.size) = False := eq_false (by rw [hs1, hs2]; omega)
  have hmax : T1.size + T2.size ≤ 9223372036854775807 := by rw [hs1, hs2]; omega
  have HTH := Lib.hid (show ∀ u : World, Below W.heap.size W u → u.there (w.heap.size + 1 + 1) 0 R.toArray.size from fun u hu => there_blk ((hu.block _ (by omega)).trans hk2) (by simp [hZl, hRl]))
  have HB0 := Lib.hid (below_drew (Below.refl (w.heap.size + 2) W))
  have HFIN := Lib.hid (And.intro hWs (And.intro hWb (And.intro hk2 (And.intro hZl hRl))))
  have hinf : (Tryd.prog.info? 24).map (·.size) = some R.length := by rw [hRl]; exact (zero_of_info info32b).2
  have hs := fun W g => slice_all32 W g
  have HU := Lib.hid Tryd.underlying24
  clear hWs hWb hk0 hk1 hk2 hZl hZ hp hq hpb hqb hP hQ hR hT1 hT2 hT3 hs1 hs2
  go_enter Tryd.func24, Tryd.ntmps24
  go_wp2_with fail
  go_region_held3 (fun u => (convert 33 9 (.slice (some ⟨w.heap.size, 0, none⟩) 32 32)).run Tryd.prog u = .ok (.string T1) u ∧ (convert 33 9 (.slice (some ⟨w.heap.size + 1, 0, none⟩) 32 32)).run Tryd.prog u = .ok (.string T2) u) (first | exact HSS.out _ HB5.out | exact HSS.out _ HB3.out | exact HSS.out _ HB0.out)
    (first
      | (go_at_call 55; (with_reducible refine (HT.out _).mono ?_); rintro e w3 ⟨rfl, hb3'⟩; have hb3 := below_of_drew hb3'; have hth := HTH.out w3 hb3; have HB3 := Lib.hid (Below.mono (B' := w.heap.size + 2) hb3 (by have := HFIN.out.1; show w.heap.size + 2 ≤ W.heap.size; omega)); have HB4 := Lib.hid hb3; have HB5 := Lib.hid (below_setCells' (b := w.heap.size + 1 + 1) (B := w.heap.size + 2) (by omega) R 0 w3 HB3.out); clear hb3 hb3'))
  go_wp2
  obtain ⟨hWs, hWb, hk2, hZl, hRl⟩ := HFIN.out
  have hk3 := heap_setCells_all ((HB4.out.block (w.heap.size + 1 + 1) (by omega)).trans hk2) (hZl.trans hRl.symm)
  exact bodyPost_ret (results_cell_row rfl _ _ (w.heap.size + 1 + 1) 24 R.toArray (0, 0) _ rfl hk3 HU.out rfl (by simpa using hinf)) rfl ⟨rfl, hWb.trans (Below.mono HB5.out (by omega))⟩
set_option maxHeartbeats 4000000 in
theorem rnode_calls (A : Option Addr) (n c : Nat) (xs : List (List Int)) (hn : n = xs.length) (hc : n ≤ c) (hl : n ≤ 100000) (hH : Hs xs) : ∀ (lvl at_ : Nat) (w : World), Kd.C kH w A n xs → at_ < wideP n lvl → lvl ≤ 1000 →
    Calls Tryd.prog 53 #[.slice A n c, .int .i64 (lvl : Int), .int .i64 (at_ : Int)] w fun e w' => e = .returned (.agg (nums .u8 (nodeP xs lvl at_)).toArray) ∧ Below w.heap.size w w'
  | 0, at_, w, hr, hat, hlv => by
    have HZ := (zero_of_info info32b).1
    obtain ⟨Z, hZ⟩ : ∃ C, (nums .u8 (List.replicate 32 0)).toArray = C := ⟨_, rfl⟩
    rw [hZ] at HZ
    have hat2 : at_ < n := hat
    obtain ⟨b, o, rfl, hbl, hrg⟩ := C_hash (by rw [← hn]; exact hr) (by omega)
    obtain ⟨hr0, hs0⟩ := hrg at_ (by omega)
    rw [show nodeP xs 0 at_ = rdH xs at_ from rfl]
    have hr1 : (w.alloc (.cells Z 24)).rangeAt b (o + at_ * 32) (nums .u8 (rdH xs at_)) := World.rangeAt_alloc hr0 _
    have hone := nums_one .u8 (rdH xs at_)
    have hPl : (nums .u8 (rdH xs at_)).length = 32 := by rw [nums_len]; exact hs0
    obtain ⟨P, hP⟩ : ∃ P, nums .u8 (rdH xs at_) = P := ⟨_, rfl⟩
    rw [hP] at hr1 hone hPl ⊢
    have hZ32 : Z.size = 32 := by rw [← hZ]; rfl
    have HF := Lib.hid (show (Tryd.prog.info? 24).map (·.size) = some P.length ∧ (Tryd.prog.info? 24).map (·.size) = some P.toArray.size ∧ Z.size = P.toArray.size ∧ P.toArray.all (·.oneCell') = true from
      ⟨by rw [hPl]; exact (zero_of_info info32b).2, by rw [List.size_toArray, hPl]; exact (zero_of_info info32b).2, hZ32.trans (by rw [List.size_toArray, hPl]), all_oneCell_toArray hone⟩)
    have HK := Lib.hid (heap_alloc_new w (.cells Z 24))
    have HU := Lib.hid Tryd.underlying24
    have HR1 := Lib.hid hr1
    have g1 : (at_ : Int) < (n : Int) := by omega
    clear hr hat hrg hr0 hs0 hr1 hone hPl hP hZ hZ32 hH hn hlv hat2
    go_enter Tryd.func53, Tryd.ntmps53
    go_wp2_with (first
      | ((with_reducible show wpList _ _ _ (Oper.mk _ (Op.load _ (.tmp 12)) _ _ _ _ :: _) _ _); (go_loud (refine wpList_load_mid rfl 24 (.tmp 12) rfl b (o + at_ * 32) rfl P _ HR1.out HU.out rfl HF.out.1 ?_)))
      | ((with_reducible show wpList _ _ _ (Oper.mk _ (Op.store _ _ _) _ _ _ _ :: _) _ _); (go_loud (refine wpList_store_row rfl 24 (.tmp 6) (.tmp 13) rfl w.heap.size P.toArray rfl rfl 24 Z HK.out HF.out.2.1 HF.out.2.2.1 HF.out.2.2.2 ?_))))
    exact bodyPost_ret (results_cell_row rfl _ _ w.heap.size 24 P.toArray (0, 0) _ rfl (setRow_heap _ _ _ _ _ _ HK.out) HU.out rfl HF.out.2.1) rfl ⟨rfl, below_setRow (below_alloc (Below.refl _ _) _) (Nat.le_refl _) _⟩
  | lvl + 1, at_, w, hr, hat, hlv => by
    have ih := fun (a : Nat) (u : World) (hu : Kd.C kH u A n xs) (ha : a < wideP n lvl) => rnode_calls A n c xs hn hc hl hH lvl a u hu ha (by omega)
    have HZ := (zero_of_info info32b).1
    obtain ⟨Z, hZ⟩ : ∃ C, nums .u8 (List.replicate 32 0) = C := ⟨_, rfl⟩
    have hZl : Z.length = 32 := by rw [← hZ]; rfl
    rw [hZ] at HZ
    have hw1 : at_ < (wideP n lvl + 1) / 2 := hat
    have hwle := wideP_le n lvl
    have hnode : nodeP xs (lvl + 1) at_ = if 2 * at_ + 1 ≥ wideP n lvl then twiceP (nodeP xs lvl (2 * at_) ++ nodeP xs lvl (2 * at_)) else twiceP (nodeP xs lvl (2 * at_) ++ nodeP xs lvl (2 * at_ + 1)) := by rw [nodeP, ← hn]
    have hhash : ∀ a, a < wideP n lvl → (nodeP xs lvl a).length = 32 ∧ ∀ x ∈ nodeP xs lvl a, 0 ≤ x ∧ x < 256 := fun a ha => by
      rw [nodeP_lev xs lvl a (by rw [← hn]; exact ha)]
      exact (lev_Hs hH lvl).any a
    obtain ⟨hp32, hpb⟩ := hhash (2 * at_) (by omega)
    have ih1 := ih (2 * at_) (w.alloc (.cells Z.toArray 24)) (Kd.C_alloc hr _) (by omega)
    rw [show ((2 * at_ : Nat) : Int) = 2 * (at_ : Int) by simp] at ih1
    obtain ⟨p, hpe⟩ : ∃ p, nodeP xs lvl (2 * at_) = p := ⟨_, rfl⟩
    rw [hpe] at hp32 hpb ih1 hnode
    have hPl : (nums .u8 p).length = 32 := by rw [nums_len]; exact hp32
    have hP1 := nums_one .u8 p
    have HPP := Lib.hid (fun u => rpair_calls p p u hp32 hp32 hpb hpb)
    have hR : (nodeP xs (lvl + 1) at_).length = 32 := by
      rw [hnode]
      split <;> exact twiceP_len _
    have hRl : (nums .u8 (nodeP xs (lvl + 1) at_)).length = 32 := by rw [nums_len]; exact hR
    have hR1 := nums_one .u8 (nodeP xs (lvl + 1) at_)
    have HF := Lib.hid (show ∀ L : List Value, L.length = 32 → (∀ v ∈ L, v.oneCell' = true) → (Tryd.prog.info? 24).map (·.size) = some L.toArray.size ∧ Z.toArray.size = L.toArray.size ∧ L.toArray.all (·.oneCell') = true from fun L hL h1 =>
      ⟨by rw [List.size_toArray, hL]; exact (zero_of_info info32b).2, by rw [List.size_toArray, List.size_toArray, hZl, hL], all_oneCell_toArray h1⟩)
    have HPF := Lib.hid (HF.out _ hPl hP1)
    have HRF := Lib.hid (HF.out _ hRl hR1)
    have HRL := Lib.hid (And.intro hRl hR1)
    have HPL := Lib.hid (And.intro hPl (And.intro hp32 hpb))
    obtain ⟨P, hP⟩ : ∃ P, nums .u8 p = P := ⟨_, rfl⟩
    obtain ⟨R, hRR⟩ : ∃ P, nums .u8 (nodeP xs (lvl + 1) at_) = P := ⟨_, rfl⟩
    rw [hP] at ih1 HPF HPL HPP
    have HPL2 := Lib.hid hP
    rw [hRR] at HRF HRL ⊢
    have HIH1 := Lib.hid ih1
    have HRR := Lib.hid (And.intro hRR hnode)
    have HU := Lib.hid Tryd.underlying24
    have HKR := Lib.hid (heap_alloc_new w (.cells Z.toArray 24))
    have HB1 := Lib.hid (below_alloc (Below.refl w.heap.size w) (.cells Z.toArray 24))
    have g0 : ((lvl : Int) + 1 == 0) = false := beq_eq_false_iff_ne.2 (by omega)
    have HIH := Lib.hid ih
    have HHS := Lib.hid hhash
    have HR0 := Lib.hid hr
    have HNN := Lib.hid hn
    clear hn ih1 ih hR hRl hR1 hPl hP1 hp32 hpb hpe hP hRR hnode hhash hr hat hZ hH
    go_enter Tryd.func53, Tryd.ntmps53
    go_wp2_with fail
    (with_reducible refine HIH1.out.mono ?_)
    rintro e w2 ⟨rfl, hb2⟩
    have HK2 := Lib.hid ((hb2.block _ (blk_lt HKR.out)).trans HKR.out)
    have HB2 := Lib.hid (HB1.out.trans (Below.mono hb2 HB1.out.size))
    clear hb2 HIH1
    go_wp2_with ((with_reducible show wpList _ _ _ (Oper.mk _ (Op.store _ _ _) _ _ _ _ :: _) _ _); (go_loud (refine wpl_store_new rfl 24 (.tmp 7) (.tmp 19) rfl Z.toArray P.toArray rfl rfl HPF.out.1 HPF.out.2.1 HPF.out.2.2 ?_)))
    have HK3 := Lib.hid (blk_alloc HK2.out (.cells P.toArray 24))
    have HB3 := Lib.hid (below_alloc HB2.out (.cells P.toArray 24))
    have HN3 := Lib.hid (heap_alloc_new w2 (.cells P.toArray 24))
    have HLT := Lib.hid (blk_lt HK2.out)
    (with_reducible refine (rwide_calls n lvl _ (by omega) (by omega)).mono ?_)
    rintro e w4 ⟨rfl, ⟨m, rfl⟩⟩
    have HK4 := Lib.hid (blk_drewN HK3.out m)
    have HN4 := Lib.hid (blk_drewN HN3.out m)
    have HB4 := Lib.hid (pw_below_drewN HB3.out m)
    have HZ4 := Lib.hid (show ((w2.alloc (.cells P.toArray 24)).drewN m).heap.size = w2.heap.size + 1 by show (w2.alloc (.cells P.toArray 24)).heap.size = w2.heap.size + 1; simp)
    obtain ⟨W4, hW4⟩ : ∃ W, (w2.alloc (.cells P.toArray 24)).drewN m = W := ⟨_, rfl⟩
    rw [hW4] at HK4 HN4 HB4 HZ4 ⊢
    clear HK2 HK3 HB2 HB3 HN3 hW4
    obtain ⟨V, hV⟩ : ∃ V, wideP n lvl = V := ⟨_, rfl⟩
    rw [hV] at hw1 hwle HHS HIH HRR ⊢
    by_cases hg : V ≤ 2 * at_ + 1
    · have g2 : decide ((V : Int) ≤ 2 * (at_ : Int) + 1) = true := decide_eq_true (by omega)
      have hRe : nums .u8 (twiceP (p ++ p)) = R := by rw [← HRR.out.1, HRR.out.2, if_pos hg]
      rw [hRe] at HPP
      clear hRe
      go_wp2_with (first
        | ((with_reducible show wpList _ _ _ (Oper.mk _ (Op.load _ (.tmp 7)) _ _ _ _ :: _) _ _); (go_loud (refine wpList_load_row rfl 24 (.tmp 7) rfl w2.heap.size rfl 24 P.toArray (0, 0) _ HN4.out HU.out rfl HPF.out.1 ?_)))
        | (go_at_call 24; (with_reducible refine (HPP.out _).mono ?_); rintro e w6 ⟨rfl, hb6⟩; have HB6 := Lib.hid (HB4.out.trans (Below.mono hb6 HB4.out.size)); have HK6 := Lib.hid ((hb6.block _ (blk_lt HK4.out)).trans HK4.out); clear hb6)
        | ((with_reducible show wpList _ _ _ (Oper.mk _ (Op.store _ _ _) _ _ _ _ :: _) _ _); (go_loud (refine wpList_store_row rfl 24 (.tmp 6) (.tmp 31) rfl w.heap.size R.toArray rfl rfl 24 Z.toArray HK6.out HRF.out.1 HRF.out.2.1 HRF.out.2.2 ?_))))
      exact bodyPost_ret (results_cell_row rfl _ _ w.heap.size 24 R.toArray (0, 0) _ rfl (setRow_heap _ _ _ _ _ _ HK6.out) HU.out rfl HRF.out.1) rfl ⟨rfl, below_setRow HB6.out (Nat.le_refl _) _⟩
    · have g2 : decide ((V : Int) ≤ 2 * (at_ : Int) + 1) = false := decide_eq_false (by omega)
      obtain ⟨hq32, hqb⟩ := HHS.out (2 * at_ + 1) (by omega)
      have ih2 := HIH.out (2 * at_ + 1) W4.drew (Kd.C_drew (Kd.C_below HR0.out HB4.out)) (by omega)
      rw [show ((2 * at_ + 1 : Nat) : Int) = 2 * (at_ : Int) + 1 by simp] at ih2
      have hRe : nums .u8 (twiceP (p ++ nodeP xs lvl (2 * at_ + 1))) = R := by rw [← HRR.out.1, HRR.out.2, if_neg (by omega)]
      have HPQ := Lib.hid (fun u => rpair_calls p (nodeP xs lvl (2 * at_ + 1)) u HPL.out.2.1 hq32 HPL.out.2.2 hqb)
      rw [hRe, HPL2.out] at HPQ
      obtain ⟨Q, hQ⟩ : ∃ Q, nums .u8 (nodeP xs lvl (2 * at_ + 1)) = Q := ⟨_, rfl⟩
      rw [hQ] at HPQ ih2
      have HIH2 := Lib.hid ih2
      have hlt := HLT.out
      have HSR := Lib.hid (show ∀ u : World, Below W4.heap.size W4 u → u.rangeAt w2.heap.size 0 P from fun u hu j v hj => by
        rw [Nat.zero_add, blk_cell ((hu.block _ (blk_lt HN4.out)).trans HN4.out), List.getElem?_toArray]
        exact hj)
      have HTH := Lib.hid (show ∀ u : World, Below W4.heap.size W4 u → u.there w.heap.size 0 R.toArray.size from fun u hu => there_blk ((hu.block _ (blk_lt HK4.out)).trans HK4.out) (by rw [← HRF.out.2.1]))
      have hu := Tryd.underlying24
      have hi1 : (Tryd.prog.info? 24).map (·.size) = some P.length := by rw [HPL.out.1]; exact (zero_of_info info32b).2
      have hi2 : (Tryd.prog.info? 24).map (·.size) = some R.length := by rw [HRL.out.1]; exact (zero_of_info info32b).2
      have hR1 := HRL.out.2
      have hv0 : IntKind.i64.wrap (2 * (at_ : Int)) = 2 * (at_ : Int) := IntWalk.i64_in _ (by omega)
      have hv1 : IntKind.i64.wrap (2 * (at_ : Int) + 1) = 2 * (at_ : Int) + 1 := IntWalk.i64_in _ (by omega)
      have hv2 : IntKind.i64.wrap (lvl : Int) = (lvl : Int) := IntWalk.i64_in _ (by omega)
      have HB40 := Lib.hid (below_drew (Below.refl W4.heap.size W4))
      clear ih2 hQ hRe hq32 hqb hlt
      go_wp2_with fail
      go_region_held3 (fun u => u.rangeAt w2.heap.size 0 P) (first | exact HS7.out | exact HSR.out _ HB6.out | exact HSR.out _ HB5.out | exact HSR.out _ HB40.out)
        (first
          | (go_at_call 53; (with_reducible refine HIH2.out.mono ?_); rintro e w5 ⟨rfl, hb5⟩; have HB5 := Lib.hid (below_of_drew hb5); clear hb5)
          | (go_at_call 24; (with_reducible refine (HPQ.out _).mono ?_); rintro e w6 ⟨rfl, hb6⟩; have HB6 := Lib.hid (HB5.out.trans (Below.mono hb6 HB5.out.size)); have hth := HTH.out w6 HB6.out; have HS7 := Lib.hid (World.rangeAt_setCells_apart (HSR.out w6 HB6.out) w.heap.size 0 R (.inl (by have := HLT.out; omega))); clear hb6))
      go_wp2
      have hk7 := (heap_setCells_all (vs := R) ((HB6.out.block _ (blk_lt HK4.out)).trans HK4.out) (by have := HRF.out.2.1; simpa using this))
      exact bodyPost_ret (results_cell_row rfl _ _ w.heap.size 24 R.toArray (0, 0) _ rfl hk7 HU.out rfl HRF.out.1) rfl ⟨rfl, below_setCells' (Nat.le_refl _) R 0 _ (HB4.out.trans (Below.mono HB6.out HB4.out.size))⟩
end Go.Proofs.YtlmcdkjobdcflaaDoor.Hand

/- The document's root of a list, and whether a list is doubled: walked. -/
namespace Go.Proofs.YtlmcdkjobdcflaaDoor.Hand
open Go Go.RowKit Go.Proofs.YtlmcdkjobdcflaaDoor.Plain Go.Proofs.YtlmcdkjobdcflaaDoor.PAll Go.Proofs.YtlmcdkjobdcflaaDoorW.PrintWords Go.Proofs.YtlmcdkjobdcflaaDoorW.PrintLast Go.Proofs.YtlmcdkjobdcflaaDoorW.PrintMore
set_option linter.unusedVariables false
set_option linter.unusedSimpArgs false
set_option maxRecDepth 100000
theorem eqR (S T : List Int) (hS : S.length = 32) (hT : T.length = 32) (w : World) : (Op.equalIn 10000 24 (.agg (nums .u8 S).toArray) (.agg (nums .u8 T).toArray)).run Tryd.prog w = .ok (S == T) w :=
  run_equalIn_nums (P := Tryd.prog) w 9998 24 5 32 .u8 Tryd.underlying24 Tryd.underlying5 (fun w => by rfl) S T hS hT
theorem built32 : Tryd.prog.built 24 [] = some (nums .u8 (List.replicate 32 0)).toArray := by kernel_rfl
theorem rootP_node {xs : List (List Int)} (h : 1 ≤ xs.length) : nodeP xs (depthP xs.length) 0 = rootP xs := by
  have hd := depthP_is xs.length
  rw [rootP_of hd, rootAt_depth hd h, nodeP_lev]
  exact wideP_pos h _
theorem depthP_le {n : Nat} (h : n ≤ 100000) : depthP n ≤ 1000 := by
  have := depth_le (depthP_is n) (m := 17) (by have : (2 : Nat) ^ 17 = 131072 := by decide
                                               omega)
  omega
set_option maxHeartbeats 2000000 in
theorem rroot_calls (A : Option Addr) (n c : Nat) (xs : List (List Int)) (w : World) (hn : n = xs.length) (hr : Kd.C kH w A n xs) (hc : n ≤ c) (hl : n ≤ 100000) (hH : Hs xs) :
    Calls Tryd.prog 21 #[.slice A n c] w fun e w' => e = .returned (.agg (nums .u8 (rootP xs)).toArray) ∧ Below w.heap.size w w' := by
  have HZ := (zero_of_info info32b).1
  obtain ⟨Z, hZ⟩ : ∃ C, (nums .u8 (List.replicate 32 0)).toArray = C := ⟨_, rfl⟩
  have hbu := built32
  rw [hZ] at HZ hbu
  have hZ32 : Z.size = 32 := by rw [← hZ]; rfl
  have hR32 : (nums .u8 (rootP xs)).length = 32 := by rw [nums_len]; exact (rootP_hash hH).1
  have hR1 := nums_one .u8 (rootP xs)
  have hnd : 1 ≤ n → nodeP xs (depthP n) 0 = rootP xs := fun h => by
    subst hn
    exact rootP_node h
  have h0 : n = 0 → (nums .u8 (rootP xs)).toArray = Z := fun h => by
    rw [← hZ]
    have : rootP xs = z32h := by unfold rootP; exact rootAt_none (by omega) _
    rw [this]
    rfl
  have HND := Lib.hid (fun (h : 1 ≤ n) (u : World) (hu : Kd.C kH u A n xs) => (show Calls Tryd.prog 53 #[.slice A n c, .int .i64 ((depthP n : Nat) : Int), .int .i64 0] u fun e w' => e = .returned (.agg (nums .u8 (rootP xs)).toArray) ∧ Below u.heap.size u w' from by
    have h3 := rnode_calls A n c xs hn hc hl hH (depthP n) 0 u hu (wideP_pos h _) (depthP_le hl)
    rw [hnd h] at h3
    exact h3))
  obtain ⟨R, hR⟩ : ∃ R, (nums .u8 (rootP xs)).toArray = R := ⟨_, rfl⟩
  rw [hR] at HND h0 ⊢
  have HF := Lib.hid (show (Tryd.prog.info? 24).map (·.size) = some R.size ∧ Z.size = R.size ∧ R.all (·.oneCell') = true from by
    have h32 : R.size = 32 := by rw [← hR, List.size_toArray]; exact hR32
    exact ⟨by rw [h32]; exact (zero_of_info info32b).2, by rw [h32, hZ32], by rw [← hR]; exact all_oneCell_toArray hR1⟩)
  have HU := Lib.hid Tryd.underlying24
  have HK := Lib.hid (heap_alloc_new w (.cells Z 24))
  have HB := Lib.hid (below_alloc (Below.refl w.heap.size w) (.cells Z 24))
  have HR := Lib.hid (Kd.C_alloc hr (.cells Z 24))
  have HBU := Lib.hid hbu
  have HH0 := Lib.hid h0
  by_cases hz : n = 0
  · subst hz
    obtain rfl := h0 rfl
    clear hn hr hZ hZ32 hR32 hR1 hnd h0 hR hbu hH HND HH0
    go_enter Tryd.func21, Tryd.ntmps21
    go_wp2_with (first
      | ((with_reducible show wpList _ _ _ (Oper.mk _ (Op.build _ _) _ _ _ _ :: _) _ _); (go_loud (refine wpl_build rfl 24 _ rfl #[] (by simp) R HBU.out ?_)))
      | ((with_reducible show wpList _ _ _ (Oper.mk _ (Op.store _ _ _) _ _ _ _ :: _) _ _); (go_loud (refine wpList_store_row rfl 24 (.tmp 2) (.tmp 6) rfl w.heap.size R rfl rfl 24 R HK.out HF.out.1 rfl HF.out.2.2 ?_))))
    exact bodyPost_ret (results_cell_row rfl _ _ w.heap.size 24 R (0, 0) _ rfl (setRow_heap _ _ _ _ _ _ HK.out) HU.out rfl HF.out.1) rfl ⟨rfl, below_setRow HB.out (Nat.le_refl _) _⟩
  · have g : ((n : Int) == 0) = false := beq_eq_false_iff_ne.2 (by omega)
    have hn1 : 1 ≤ n := by omega
    have HNN := Lib.hid hn1
    have HDE := Lib.hid (fun u => rdepth_calls n u (by omega))
    obtain ⟨D, hD⟩ : ∃ D, depthP n = D := ⟨_, rfl⟩
    rw [hD] at HND HDE
    clear hn hr hZ hZ32 hR32 hR1 hnd h0 hR hbu hH hz hD hn1
    go_enter Tryd.func21, Tryd.ntmps21
    go_wp2_with fail
    (with_reducible refine (HDE.out _).mono ?_)
    rintro e w2 ⟨rfl, ⟨m, rfl⟩⟩
    have HK2 := Lib.hid (blk_drewN HK.out m)
    have HB2 := Lib.hid (pw_below_drewN HB.out m)
    have HR2 := Lib.hid (Kd.C_drewN HR.out m)
    obtain ⟨W2, hW2⟩ : ∃ W, (w.alloc (.cells Z 24)).drewN m = W := ⟨_, rfl⟩
    rw [hW2] at HK2 HB2 HR2 ⊢
    clear hW2
    go_wp2_with fail
    (with_reducible refine (HND.out HNN.out _ HR2.out).mono ?_)
    rintro e w3 ⟨rfl, hb3⟩
    have HK3 := Lib.hid ((hb3.block _ (blk_lt HK2.out)).trans HK2.out)
    have HB3 := Lib.hid (HB2.out.trans (Below.mono hb3 HB2.out.size))
    clear hb3
    go_wp2_with ((with_reducible show wpList _ _ _ (Oper.mk _ (Op.store _ _ _) _ _ _ _ :: _) _ _); (go_loud (refine wpList_store_row rfl 24 (.tmp 2) (.tmp 11) rfl w.heap.size R rfl rfl 24 Z HK3.out HF.out.1 HF.out.2.1 HF.out.2.2 ?_)))
    exact bodyPost_ret (results_cell_row rfl _ _ w.heap.size 24 R (0, 0) _ rfl (setRow_heap _ _ _ _ _ _ HK3.out) HU.out rfl HF.out.1) rfl ⟨rfl, below_setRow HB3.out (Nat.le_refl _) _⟩
set_option maxHeartbeats 2000000 in
theorem rdoub_calls (A : Option Addr) (n c : Nat) (xs : List (List Int)) (w : World) (hn : n = xs.length) (hr : Kd.C kH w A n xs) (hc : n ≤ c) (hl : n ≤ 100000) (hH : Hs xs) :
    Calls Tryd.prog 27 #[.slice A n c] w fun e w' => e = .returned (.bool (doubP xs)) ∧ Below w.heap.size w w' := by
  have HNO := Lib.hid (fun (lvl a : Nat) (u : World) (hu : Kd.C kH u A n xs) (ha : a < wideP n lvl) (hl2 : lvl ≤ 1000) => rnode_calls A n c xs hn hc hl hH lvl a u hu ha hl2)
  have HDE := Lib.hid (fun u => rdepth_calls n u (by omega))
  have HWI := Lib.hid (fun (lvl : Nat) (h : lvl ≤ 1000) (u : World) => rwide_calls n lvl u (by omega) (by omega))
  have hd := depthP_is xs.length
  rw [← hn] at hd
  have hdle := depthP_le hl
  have hdoub : doubP xs = doubAt xs (depthP n) := doubP_depth (by rw [← hn]; exact hd)
  have hdd : ∀ i, i ≤ depthP n → doubAt xs i = true → doubP xs = true := fun i hi h => by rw [hdoub]; exact doubAt_mono h _ hi
  obtain ⟨D, hD⟩ : ∃ D, depthP n = D := ⟨_, rfl⟩
  rw [hD] at HDE hdle hdoub hdd
  have HR := Lib.hid hr
  have HN := Lib.hid (And.intro hn (And.intro hdoub (And.intro hdd (And.intro hdle hH))))
  have hwl := fun i => wideP_le n i
  have HWL := Lib.hid hwl
  clear hn hr hH hd hdoub hdd hD hwl
  go_enter Tryd.func27, Tryd.ntmps27
  go_wp2_with fail
  go_loopw [3] (fun s wr => ∃ i : Nat, i ≤ D ∧ s = .int .i64 (i : Int) ∧ Hid (doubAt xs i = false ∧ Below w.heap.size w wr)) (fun s _ => (D + 1 - (intOf s).toNat))
  case atStart => exact ⟨0, Nat.zero_le _, rfl, Lib.hid ⟨rfl, Below.refl _ _⟩⟩
  case round =>
    obtain ⟨i, hi, rfl, H⟩ := hrel
    go_wp2_with fail
    (with_reducible refine (HDE.out _).mono ?_)
    rintro e w2 ⟨rfl, ⟨m, rfl⟩⟩
    have HB2 := Lib.hid (pw_below_drewN H.out.2 m)
    obtain ⟨W2, hW2⟩ : ∃ W, wr.drewN m = W := ⟨_, rfl⟩
    rw [hW2] at HB2 ⊢
    clear hW2
    by_cases hlt : i < D
    · have g : decide ((i : Int) < (D : Int)) = true := decide_eq_true (by omega)
      obtain ⟨V, hV⟩ : ∃ V, wideP n i = V := ⟨_, rfl⟩
      have HW2 := Lib.hid (HWI.out i (by omega))
      rw [hV] at HW2
      have hVl := HWL.out i
      rw [hV] at hVl
      go_wp2_with fail
      go_loopw [4] (fun s wr => ∃ a : Nat, 2 * a ≤ V + 1 ∧ s = .int .i64 (a : Int) ∧ Hid ((∀ j, j < a → (rdH (lev xs i) (2 * j + 1) == rdH (lev xs i) (2 * j)) = false) ∧ Below w.heap.size w wr)) (fun s _ => (V + 2 - (intOf s).toNat))
      case atStart => exact ⟨0, by omega, rfl, Lib.hid ⟨fun j hj => absurd hj (by omega), HB2.out⟩⟩
      case round =>
        obtain ⟨a, ha, rfl, H2⟩ := hrel
        have hs1 : 2 * (a : Int) + 1 ≤ 9000000 := by omega
        go_wp2_with fail
        (with_reducible refine (HW2.out _).mono ?_)
        rintro e w3 ⟨rfl, ⟨m3, rfl⟩⟩
        have HB3 := Lib.hid (pw_below_drewN H2.out.2 m3)
        obtain ⟨W3, hW3⟩ : ∃ W, wr.drewN m3 = W := ⟨_, rfl⟩
        rw [hW3] at HB3 ⊢
        clear hW3
        by_cases hat : 2 * a + 1 < V
        · have g3 : decide (2 * (a : Int) + 1 < (V : Int)) = true := decide_eq_true (by omega)
          have n1 := HNO.out i (2 * a) W3 (Kd.C_below HR.out HB3.out) (by omega) (by omega)
          rw [show ((2 * a : Nat) : Int) = 2 * (a : Int) by simp] at n1
          have n2 := fun u hu => HNO.out i (2 * a + 1) u hu (by omega) (by omega)
          have e1 : nodeP xs i (2 * a) = rdH (lev xs i) (2 * a) := nodeP_lev xs i _ (by rw [← HN.out.1]; omega)
          have e2 : nodeP xs i (2 * a + 1) = rdH (lev xs i) (2 * a + 1) := nodeP_lev xs i _ (by rw [← HN.out.1]; omega)
          obtain ⟨p, hp⟩ : ∃ p, nodeP xs i (2 * a) = p := ⟨_, rfl⟩
          obtain ⟨q, hq⟩ : ∃ p, nodeP xs i (2 * a + 1) = p := ⟨_, rfl⟩
          rw [hp] at n1 e1
          have N2 := Lib.hid (show ∀ u : World, Kd.C kH u A n xs → Calls Tryd.prog 53 #[.slice A n c, .int .i64 (i : Int), .int .i64 (2 * (a : Int) + 1)] u fun e w' => e = .returned (.agg (nums .u8 q).toArray) ∧ Below u.heap.size u w' from fun u hu => by
            have h := n2 u hu
            rw [hq, show ((2 * a + 1 : Nat) : Int) = 2 * (a : Int) + 1 by simp] at h
            exact h)
          rw [hq] at e2
          have hps : p.length = 32 := by rw [e1]; exact ((lev_Hs HN.out.2.2.2.2 i).any _).1
          have hqs : q.length = 32 := by rw [e2]; exact ((lev_Hs HN.out.2.2.2.2 i).any _).1
          have q0 := fun u => eqR p q hps hqs u
          have HE := Lib.hid (And.intro e1 e2)
          obtain ⟨P, hP⟩ : ∃ P, (nums .u8 p).toArray = P := ⟨_, rfl⟩
          obtain ⟨Q, hQ⟩ : ∃ P, (nums .u8 q).toArray = P := ⟨_, rfl⟩
          rw [hP] at n1 q0
          rw [hQ] at N2 q0
          have N1 := Lib.hid n1
          clear n1 n2 e1 e2 hp hq hps hqs hP hQ
          by_cases hpq : p = q
          · have hb : (p == q) = true := by simpa using hpq
            rw [hb] at q0
            have HD := Lib.hid (show doubP xs = true from HN.out.2.2.1 (i + 1) (by omega) (by
              rw [doubAt, H.out.1, Bool.false_or]
              refine List.any_eq_true.2 ⟨a, ?_, ?_⟩
              · have := lev_len xs i
                have := HN.out.1
                simp
                rw [lev_len, ← HN.out.1, hV]
                omega
              · rw [← HE.out.1, ← HE.out.2, hpq]
                simp))
            clear hb hpq
            go_wp2_with fail
            (with_reducible refine N1.out.mono ?_)
            rintro e w5 ⟨rfl, hb5⟩
            have HB5 := Lib.hid (HB3.out.trans (Below.mono hb5 HB3.out.size))
            clear hb5
            go_wp2_with fail
            (with_reducible refine (N2.out _ (Kd.C_below HR.out HB5.out)).mono ?_)
            rintro e w6 ⟨rfl, hb6⟩
            have HB6 := Lib.hid (HB5.out.trans (Below.mono hb6 HB5.out.size))
            clear hb6
            go_wp2_with fail
            go_ret
            exact ⟨by rw [HD.out]; rfl, HB6.out⟩
          · have hb : (p == q) = false := by simpa using hpq
            rw [hb] at q0
            have HNE := Lib.hid (show (rdH (lev xs i) (2 * a + 1) == rdH (lev xs i) (2 * a)) = false by
              rw [← HE.out.1, ← HE.out.2]
              simpa using fun e => hpq e.symm)
            clear hb hpq
            go_wp2_with fail
            (with_reducible refine N1.out.mono ?_)
            rintro e w5 ⟨rfl, hb5⟩
            have HB5 := Lib.hid (HB3.out.trans (Below.mono hb5 HB3.out.size))
            clear hb5
            go_wp2_with fail
            (with_reducible refine (N2.out _ (Kd.C_below HR.out HB5.out)).mono ?_)
            rintro e w6 ⟨rfl, hb6⟩
            have HB6 := Lib.hid (HB5.out.trans (Below.mono hb6 HB5.out.size))
            clear hb6
            go_wp2_with fail
            go_roundw
            case rel => exact ⟨a + 1, by omega, by go_num, Lib.hid ⟨fun j hj => by
              by_cases e : j = a
              · subst e
                exact HNE.out
              · exact H2.out.1 j (by omega), HB6.out⟩⟩
            case measure => simp only [intOf]; omega
        · have g3 : decide (2 * (a : Int) + 1 < (V : Int)) = false := decide_eq_false (by omega)
          have HD := Lib.hid (show doubAt xs (i + 1) = false by
            rw [doubAt, H.out.1, Bool.false_or]
            unfold pairedP
            rw [List.any_eq_false]
            intro k hk
            have h9 : k < (lev xs i).length / 2 := by simpa using hk
            rw [lev_len, ← HN.out.1, hV] at h9
            rw [H2.out.1 k (by omega)]
            simp)
          go_wp2_with fail
          go_roundw
          case rel => exact ⟨i + 1, by omega, by go_num, Lib.hid ⟨HD.out, HB3.out⟩⟩
          case measure => simp only [intOf]; omega
    · have g : decide ((i : Int) < (D : Int)) = false := decide_eq_false (by omega)
      have HX := Lib.hid (show doubP xs = false by
        obtain rfl : i = D := by omega
        exact HN.out.2.1.trans H.out.1)
      go_wp2_with fail
      go_ret
      exact ⟨by rw [HX.out]; rfl, HB2.out⟩
end Go.Proofs.YtlmcdkjobdcflaaDoor.Hand

/- The law's lists: the document's form of a list of hashes, and a few small ones: walked. -/
namespace Go.Proofs.YtlmcdkjobdcflaaDoor.Hand
open Go Go.RowKit Go.Proofs.YtlmcdkjobdcflaaDoor.Plain Go.Proofs.YtlmcdkjobdcflaaDoor.PAll Go.Proofs.YtlmcdkjobdcflaaDoorW.PrintWords Go.Proofs.YtlmcdkjobdcflaaDoorW.PrintLast Go.Proofs.YtlmcdkjobdcflaaDoorW.PrintMore
set_option linter.unusedVariables false
set_option linter.unusedSimpArgs false
set_option maxRecDepth 100000
theorem run_load_u8 (w : World) (a : Addr) (v : Value) (h : w.cell? a = some v) : (loadVar 5 a).run Tryd.prog w = .ok v w := by
  go_simp
attribute [-go_sem] loadVar storeVar Instr.buildSlice
theorem info32c : (Tryd.prog.info? 24).map (fun i => (i.zero, i.size, i.bytes)) = some (some (.agg (nums .u8 (List.replicate 32 0)).toArray), 32, 32) := by kernel_rfl
theorem run_hash1r (p : List Int) (h : p.length = 32) (W : World) : (Instr.buildSlice 28 1 #[(0, .agg (nums .u8 p).toArray)]).run Tryd.prog W = .ok (.slice (some ⟨W.heap.size, 0, none⟩) 1 1) (W.alloc (.cells (nums .u8 p).toArray 24)) := by
  obtain ⟨x0, x1, x2, x3, x4, x5, x6, x7, x8, x9, x10, x11, x12, x13, x14, x15, x16, x17, x18, x19, x20, x21, x22, x23, x24, x25, x26, x27, x28, x29, x30, x31, rfl⟩ := list32 p h
  kernel_rfl
theorem take_hash {xs : List (List Int)} {k : Nat} (h : k < xs.length) : xs.take (k + 1) = xs.take k ++ [rdH xs k] := by
  rw [List.take_succ_eq_append_getElem h, rdH_eq h]
set_option maxHeartbeats 2000000 in
theorem refs_calls (A : Option Addr) (n c : Nat) (xs : List (List Int)) (w : World) (hn : n = xs.length) (hr : Kd.C kH w A n xs) (hc : n ≤ c) (hl : n ≤ 100000) (hH : Hs xs) :
    Calls Tryd.prog 22 #[.slice A n c] w fun e w' => ∃ v, e = .returned v ∧ Kd.R kH 24 w' w.heap.size (fun _ => True) v xs ∧ Below w.heap.size w w' := by
  have HZ := (zero_of_info infoHash).1
  obtain ⟨Z, hZ⟩ : ∃ C, (nums .u8 (List.replicate 32 0)).toArray = C := ⟨_, rfl⟩
  rw [hZ] at HZ
  have hZ32 : Z.size = 32 := by rw [← hZ]; rfl
  have HR := Lib.hid hr
  have HN := Lib.hid (And.intro hn (And.intro hH hZ32))
  have HU := Lib.hid Tryd.underlying25
  clear hr hn hH hZ hZ32
  go_enter Tryd.func22, Tryd.ntmps22
  go_wp2_with fail
  go_loopw [3, 8] (fun v i wr => ∃ k : Nat, k ≤ n ∧ i = .int .i64 (k : Int) ∧ Hid (Kd.R kH 24 wr w.heap.size (fun _ => True) v (xs.take k) ∧ Below w.heap.size w wr)) (fun _ i _ => (n + 1 - (intOf i).toNat))
  case atStart => exact ⟨0, Nat.zero_le _, rfl, Lib.hid ⟨Kd.R_nil _ _ _ _ _, Below.refl _ _⟩⟩
  case round =>
    obtain ⟨k, hk, rfl, H⟩ := hrel
    obtain ⟨hR, hB⟩ := H.out
    by_cases hlt : k < n
    · have hklt : k < xs.length := by rw [← HN.out.1]; exact hlt
      obtain ⟨b, o, rfl, hbl, hrg⟩ := C_hash (by rw [← HN.out.1]; exact HR.out) (by omega)
      obtain ⟨hr0, hs0⟩ := hrg k hklt
      have hr1 := range_below hB hbl hr0
      have hg : decide ((k : Int) < (n : Int)) = true := decide_eq_true (by omega)
      have hg2 : (k : Int) < (n : Int) := by omega
      have hbs := fun u => run_hash1r (rdH xs k) hs0 u
      have hPl : (nums .u8 (rdH xs k)).length = 32 := by rw [nums_len]; exact hs0
      have hone := nums_one .u8 (rdH xs k)
      have hcm := fun (u : World) => kH_M (w := u) (base := w.heap.size) (ok := fun _ => False) hs0
      obtain ⟨P, hP⟩ : ∃ P, nums .u8 (rdH xs k) = P := ⟨_, rfl⟩
      rw [hP] at hbs hPl hone hcm hr1
      have HF := Lib.hid (show (Tryd.prog.info? 25).map (·.size) = some P.length ∧ (Tryd.prog.info? 25).map (·.size) = some P.toArray.size ∧ Z.size = P.toArray.size ∧ P.toArray.all (·.oneCell') = true from
        ⟨by rw [hPl]; exact (zero_of_info infoHash).2, by rw [List.size_toArray, hPl]; exact (zero_of_info infoHash).2, HN.out.2.2.trans (by rw [List.size_toArray, hPl]), all_oneCell_toArray hone⟩)
      have HR1 := Lib.hid hr1
      have HRR := Lib.hid (Kd.R_alloc hR (.cells P.toArray 25))
      have HBB := Lib.hid (below_alloc hB (.cells P.toArray 25))
      have HNK := Lib.hid (heap_alloc_new wr (.cells P.toArray 25))
      have HCM := Lib.hid hcm
      have HTL := Lib.hid (show ((xs.take k).length + 1) * 32 ≤ 140737488355328 by rw [List.length_take]; omega)
      have HTK := Lib.hid (take_hash hklt)
      clear hR hB H hrg hr0 hs0 hr1 hPl hone hcm hP hklt
      go_wp2_with (first
        | ((with_reducible show wpList _ _ _ (Oper.mk _ (Op.load _ (.tmp 10)) _ _ _ _ :: _) _ _); (go_loud (refine wpList_load_mid rfl 25 (.tmp 10) rfl b (o + k * 32) rfl P _ HR1.out HU.out rfl HF.out.1 ?_)))
        | ((with_reducible show wpList _ _ _ (Oper.mk _ (Op.load _ (.tmp 5)) _ _ _ _ :: _) _ _); (go_loud (refine wpList_load_row rfl 25 (.tmp 5) rfl wr.heap.size rfl 25 P.toArray (0, 0) _ HNK.out HU.out rfl HF.out.2.1 ?_)))
        | ((with_reducible show wpList _ _ _ (Oper.mk _ (Op.store _ _ _) _ _ _ _ :: _) _ _); (go_loud (refine wpl_store_new rfl 25 (.tmp 5) (.tmp 11) rfl Z P.toArray rfl rfl HF.out.2.1 HF.out.2.2.1 HF.out.2.2.2 ?_)))
        | ((with_reducible refine gate_builtin (b := .append) (xs := #[.tmp 12, .tmp 14]) rfl ?_); at_builtin; refine Kd.R_append kH (w0 := w) w.heap.size rfl (.tmp 12) (.tmp 14) 28 24 (.agg (nums .u8 (List.replicate 32 0)).toArray) 32 rfl Tryd.underlying28 info32c rfl (by decide) (by decide) _ (xs.take k) (rdH xs k) P (fun _ => True) (fun _ => False) rfl (by first | (go_simp; done) | (go_simp; rfl)) (HCM.out _) (fun _ h => h.elim) (fun _ _ => trivial) HRR.out HBB.out HBB.out.size HTL.out ?_; intro v4 w4 ho hb hg hat; have HR4 := Lib.hid ho; have HB4 := Lib.hid hb; clear ho hb hg hat))
      go_roundw
      case rel => exact ⟨k + 1, by omega, by go_num, Lib.hid ⟨by rw [HTK.out]; exact HR4.out, HB4.out⟩⟩
      case measure => simp only [intOf]; omega
    · have hg : decide ((k : Int) < (n : Int)) = false := decide_eq_false (by omega)
      have hx : xs.take k = xs := List.take_of_length_le (by rw [← HN.out.1]; omega)
      rw [hx] at hR
      have HRR := Lib.hid hR
      have HB := Lib.hid hB
      clear hR hB H hx
      go_wp2_with fail
      go_ret
      exact ⟨_, rfl, HRR.out, HB.out⟩
/-- A small hash. -/
def smallH (x : Int) : List Int := x :: List.replicate 31 0
theorem smallH_hash {x : Int} (h : 0 ≤ x ∧ x < 256) : (smallH x).length = 32 ∧ ∀ y ∈ smallH x, 0 ≤ y ∧ y < 256 := by
  refine ⟨by simp [smallH], fun y hy => ?_⟩
  rcases List.mem_cons.1 hy with rfl | hy
  · exact h
  · have := List.eq_of_mem_replicate hy
    omega
theorem built_small (x : Int) : Tryd.prog.built 25 [(0, .int .u8 x)] = some (nums .u8 (smallH x)).toArray := by kernel_rfl
def fewP (l : List Int) : List (List Int) := (l.take 20).map smallH
theorem fewP_Hs {l : List Int} (h : ∀ x ∈ l, 0 ≤ x ∧ x < 256) : Hs (fewP l) := by
  intro p hp
  simp only [fewP, List.mem_map] at hp
  obtain ⟨x, hx, rfl⟩ := hp
  exact smallH_hash (h x (List.mem_of_mem_take hx))
theorem fewP_take {l : List Int} {k : Nat} (h : k < l.length) (h2 : k < 20) : (fewP l).take (k + 1) = (fewP l).take k ++ [smallH (rd l (k : Int))] := by
  have hl : k < (fewP l).length := by simp [fewP]; omega
  rw [List.take_succ_eq_append_getElem hl]
  simp [fewP, rd, h]
set_option maxHeartbeats 2000000 in
theorem few_calls (A : Option Addr) (n c : Nat) (l : List Int) (w : World) (hn : n = l.length) (hr : Kd.C (Kd.int .u8) w A n l) (hc : n ≤ c) (hb : ∀ x ∈ l, 0 ≤ x ∧ x < 256) :
    Calls Tryd.prog 25 #[.slice A n c] w fun e w' => ∃ v, e = .returned v ∧ Kd.R kH 25 w' w.heap.size (fun _ => True) v (fewP l) ∧ Below w.heap.size w w' := by
  have hm := Kd.C_max hr
  have HR := Lib.hid hr
  have HN := Lib.hid (And.intro hn hb)
  clear hr hn hb
  go_enter Tryd.func25, Tryd.ntmps25
  go_wp2_with fail
  go_loopw [3, 4] (fun v i wr => ∃ k : Nat, k ≤ n ∧ k ≤ 20 ∧ i = .int .i64 (k : Int) ∧ Hid (Kd.R kH 25 wr w.heap.size (fun _ => True) v ((fewP l).take k) ∧ Below w.heap.size w wr)) (fun _ i _ => (20 + 1 - (intOf i).toNat))
  case atStart => exact ⟨0, Nat.zero_le _, by omega, rfl, Lib.hid ⟨Kd.R_nil _ _ _ _ _, Below.refl _ _⟩⟩
  case round =>
    obtain ⟨k, hk, hk2, rfl, H⟩ := hrel
    obtain ⟨hR, hB⟩ := H.out
    by_cases hlt : k < n ∧ k < 20
    · obtain ⟨hlt, hlt2⟩ := hlt
      have hklt : k < l.length := by rw [← HN.out.1]; exact hlt
      obtain ⟨ad, rfl, hcell⟩ := Kd.at_int HR.out (k : Int) (by omega) (by omega)
      have hcell2 : wr.cell? (ad.add k) = some (.int .u8 (rd l (k : Int))) := by
        have h := hcell
        rw [Int.toNat_natCast] at h
        exact (hB.cell (p := ad.add k) (block_lt_of_cell h)).trans h
      have hcell3 : wr.cell? (ad.add (k * 1)) = some (.int .u8 (rd l (k : Int))) := by rw [Nat.mul_one]; exact hcell2
      have hx : 0 ≤ rd l (k : Int) ∧ rd l (k : Int) < 256 := HN.out.2 _ (by simp [rd, hklt])
      obtain ⟨hs0, _⟩ := smallH_hash hx
      have hbu := built_small (rd l (k : Int))
      have hg : decide ((k : Int) < (n : Int)) = true := decide_eq_true (by omega)
      have hg2 : decide ((k : Int) < 20) = true := decide_eq_true (by omega)
      have hg3 : (k : Int) < (n : Int) := by omega
      have hbs := fun u => run_hash1 (smallH (rd l (k : Int))) hs0 u
      have hcm := fun (u : World) => kH_M (w := u) (base := w.heap.size) (ok := fun _ => False) hs0
      have HTK := Lib.hid (fewP_take hklt hlt2)
      obtain ⟨x, hxe⟩ : ∃ x, rd l (k : Int) = x := ⟨_, rfl⟩
      rw [hxe] at hcell hcell2 hcell3 hbu hbs hcm HTK
      have hload := run_load_u8 wr (ad.add k) _ hcell2
      have hload2 := run_load_u8 wr (ad.add (k * 1)) _ hcell3
      obtain ⟨P, hP⟩ : ∃ P, nums .u8 (smallH x) = P := ⟨_, rfl⟩
      rw [hP] at hbs hcm hbu
      have HRR := Lib.hid hR
      have HBB := Lib.hid hB
      have HBU := Lib.hid hbu
      have HCM := Lib.hid hcm
      have HTL := Lib.hid (show (((fewP l).take k).length + 1) * 32 ≤ 140737488355328 by rw [List.length_take]; omega)
      clear hR hB H hs0 hcm hP hklt hcell hx hbu hxe
      go_wp2_with (first
        | ((with_reducible show wpList _ _ _ (Oper.mk _ (Op.build _ _) _ _ _ _ :: _) _ _); (go_loud (refine wpl_build rfl 25 _ rfl #[(0, .int .u8 x)] (by simp [Act.eval]) P.toArray HBU.out ?_)))
        | ((with_reducible refine gate_builtin (b := .append) (xs := #[.tmp 15, .tmp 21]) rfl ?_); at_builtin; refine Kd.R_append kH (w0 := w) w.heap.size rfl (.tmp 15) (.tmp 21) 22 25 (.agg (nums .u8 (List.replicate 32 0)).toArray) 32 rfl Tryd.underlying22 infoH3 rfl (by decide) (by decide) _ ((fewP l).take k) (smallH x) P (fun _ => True) (fun _ => False) rfl (by first | (go_simp; done) | (go_simp; rfl)) (HCM.out _) (fun _ h => h.elim) (fun _ _ => trivial) HRR.out HBB.out HBB.out.size HTL.out ?_; intro v4 w4 ho hb hg hat; have HR4 := Lib.hid ho; have HB4 := Lib.hid hb; clear ho hb hg hat))
      go_roundw
      case rel => exact ⟨k + 1, by omega, by omega, by go_num, Lib.hid ⟨by rw [HTK.out]; exact HR4.out, HB4.out⟩⟩
      case measure => simp only [intOf]; omega
    · have hx : (fewP l).take k = fewP l := List.take_of_length_le (by
        have := HN.out.1
        simp [fewP]
        omega)
      rw [hx] at hR
      have HRR := Lib.hid hR
      have HB := Lib.hid hB
      by_cases h1 : k < n
      · have hg : decide ((k : Int) < (n : Int)) = true := decide_eq_true (by omega)
        have hg2 : decide ((k : Int) < 20) = false := decide_eq_false (by omega)
        clear hR hB H hx hlt
        go_wp2_with fail
        go_ret
        exact ⟨_, rfl, HRR.out, HB.out⟩
      · have hg : decide ((k : Int) < (n : Int)) = false := decide_eq_false (by omega)
        clear hR hB H hx hlt
        go_wp2_with fail
        go_ret
        exact ⟨_, rfl, HRR.out, HB.out⟩
end Go.Proofs.YtlmcdkjobdcflaaDoor.Hand

/- The law's lists, chapter 09's: walked (as chapter 08's refs). -/
namespace Go.Proofs.YtlmcdkjobdcflaaDoor.Hand
open Go Go.RowKit Go.Proofs.YtlmcdkjobdcflaaDoor.Plain Go.Proofs.YtlmcdkjobdcflaaDoor.PAll Go.Proofs.YtlmcdkjobdcflaaDoorW.PrintWords Go.Proofs.YtlmcdkjobdcflaaDoorW.PrintLast Go.Proofs.YtlmcdkjobdcflaaDoorW.PrintMore
set_option linter.unusedVariables false
set_option linter.unusedSimpArgs false
set_option maxRecDepth 100000
attribute [-go_sem] loadVar storeVar Instr.buildSlice
set_option maxHeartbeats 2000000 in
theorem refs9_calls (A : Option Addr) (n c : Nat) (xs : List (List Int)) (w : World) (hn : n = xs.length) (hr : Kd.C kH w A n xs) (hc : n ≤ c) (hl : n ≤ 100000) (hH : Hs xs) :
    Calls Tryd.prog 32 #[.slice A n c] w fun e w' => ∃ v, e = .returned v ∧ Kd.R kH 24 w' w.heap.size (fun _ => True) v xs ∧ Below w.heap.size w w' := by
  have HZ := (zero_of_info infoHash).1
  obtain ⟨Z, hZ⟩ : ∃ C, (nums .u8 (List.replicate 32 0)).toArray = C := ⟨_, rfl⟩
  rw [hZ] at HZ
  have hZ32 : Z.size = 32 := by rw [← hZ]; rfl
  have HR := Lib.hid hr
  have HN := Lib.hid (And.intro hn (And.intro hH hZ32))
  have HU := Lib.hid Tryd.underlying25
  clear hr hn hH hZ hZ32
  go_enter Tryd.func32, Tryd.ntmps32
  go_wp2_with fail
  go_loopw [3, 8] (fun v i wr => ∃ k : Nat, k ≤ n ∧ i = .int .i64 (k : Int) ∧ Hid (Kd.R kH 24 wr w.heap.size (fun _ => True) v (xs.take k) ∧ Below w.heap.size w wr)) (fun _ i _ => (n + 1 - (intOf i).toNat))
  case atStart => exact ⟨0, Nat.zero_le _, rfl, Lib.hid ⟨Kd.R_nil _ _ _ _ _, Below.refl _ _⟩⟩
  case round =>
    obtain ⟨k, hk, rfl, H⟩ := hrel
    obtain ⟨hR, hB⟩ := H.out
    by_cases hlt : k < n
    · have hklt : k < xs.length := by rw [← HN.out.1]; exact hlt
      obtain ⟨b, o, rfl, hbl, hrg⟩ := C_hash (by rw [← HN.out.1]; exact HR.out) (by omega)
      obtain ⟨hr0, hs0⟩ := hrg k hklt
      have hr1 := range_below hB hbl hr0
      have hg : decide ((k : Int) < (n : Int)) = true := decide_eq_true (by omega)
      have hg2 : (k : Int) < (n : Int) := by omega
      have hbs := fun u => run_hash1r (rdH xs k) hs0 u
      have hPl : (nums .u8 (rdH xs k)).length = 32 := by rw [nums_len]; exact hs0
      have hone := nums_one .u8 (rdH xs k)
      have hcm := fun (u : World) => kH_M (w := u) (base := w.heap.size) (ok := fun _ => False) hs0
      obtain ⟨P, hP⟩ : ∃ P, nums .u8 (rdH xs k) = P := ⟨_, rfl⟩
      rw [hP] at hbs hPl hone hcm hr1
      have HF := Lib.hid (show (Tryd.prog.info? 25).map (·.size) = some P.length ∧ (Tryd.prog.info? 25).map (·.size) = some P.toArray.size ∧ Z.size = P.toArray.size ∧ P.toArray.all (·.oneCell') = true from
        ⟨by rw [hPl]; exact (zero_of_info infoHash).2, by rw [List.size_toArray, hPl]; exact (zero_of_info infoHash).2, HN.out.2.2.trans (by rw [List.size_toArray, hPl]), all_oneCell_toArray hone⟩)
      have HR1 := Lib.hid hr1
      have HRR := Lib.hid (Kd.R_alloc hR (.cells P.toArray 25))
      have HBB := Lib.hid (below_alloc hB (.cells P.toArray 25))
      have HNK := Lib.hid (heap_alloc_new wr (.cells P.toArray 25))
      have HCM := Lib.hid hcm
      have HTL := Lib.hid (show ((xs.take k).length + 1) * 32 ≤ 140737488355328 by rw [List.length_take]; omega)
      have HTK := Lib.hid (take_hash hklt)
      clear hR hB H hrg hr0 hs0 hr1 hPl hone hcm hP hklt
      go_wp2_with (first
        | ((with_reducible show wpList _ _ _ (Oper.mk _ (Op.load _ (.tmp 10)) _ _ _ _ :: _) _ _); (go_loud (refine wpList_load_mid rfl 25 (.tmp 10) rfl b (o + k * 32) rfl P _ HR1.out HU.out rfl HF.out.1 ?_)))
        | ((with_reducible show wpList _ _ _ (Oper.mk _ (Op.load _ (.tmp 5)) _ _ _ _ :: _) _ _); (go_loud (refine wpList_load_row rfl 25 (.tmp 5) rfl wr.heap.size rfl 25 P.toArray (0, 0) _ HNK.out HU.out rfl HF.out.2.1 ?_)))
        | ((with_reducible show wpList _ _ _ (Oper.mk _ (Op.store _ _ _) _ _ _ _ :: _) _ _); (go_loud (refine wpl_store_new rfl 25 (.tmp 5) (.tmp 11) rfl Z P.toArray rfl rfl HF.out.2.1 HF.out.2.2.1 HF.out.2.2.2 ?_)))
        | ((with_reducible refine gate_builtin (b := .append) (xs := #[.tmp 12, .tmp 14]) rfl ?_); at_builtin; refine Kd.R_append kH (w0 := w) w.heap.size rfl (.tmp 12) (.tmp 14) 28 24 (.agg (nums .u8 (List.replicate 32 0)).toArray) 32 rfl Tryd.underlying28 info32c rfl (by decide) (by decide) _ (xs.take k) (rdH xs k) P (fun _ => True) (fun _ => False) rfl (by first | (go_simp; done) | (go_simp; rfl)) (HCM.out _) (fun _ h => h.elim) (fun _ _ => trivial) HRR.out HBB.out HBB.out.size HTL.out ?_; intro v4 w4 ho hb hg hat; have HR4 := Lib.hid ho; have HB4 := Lib.hid hb; clear ho hb hg hat))
      go_roundw
      case rel => exact ⟨k + 1, by omega, by go_num, Lib.hid ⟨by rw [HTK.out]; exact HR4.out, HB4.out⟩⟩
      case measure => simp only [intOf]; omega
    · have hg : decide ((k : Int) < (n : Int)) = false := decide_eq_false (by omega)
      have hx : xs.take k = xs := List.take_of_length_le (by rw [← HN.out.1]; omega)
      rw [hx] at hR
      have HRR := Lib.hid hR
      have HB := Lib.hid hB
      clear hR hB H hx
      go_wp2_with fail
      go_ret
      exact ⟨_, rfl, HRR.out, HB.out⟩
end Go.Proofs.YtlmcdkjobdcflaaDoor.Hand
