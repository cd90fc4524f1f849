/- Several texts in one. -/
import Derived.Test.YtlmcdkjobdcflaaDoorProg
import Derived.Below
import Derived.Deep.Draws
import Derived.Deep.AppendLies
import Derived.Maps.AppendAt
import Derived.OwnWalk
import Derived.Laws.BytesArg
import Derived.Laws.MakeOwn
import Derived.Laws.OwnMore
import Derived.Deep.OwnRows
import Derived.Tactics
import Derived.Lib.ConvBytes
import Derived.Laws.Slices
import Derived.WalkKit
import Derived.KernelRfl
import Derived.RowKit3
import Derived.Deep.LoopGhost
import Derived.Deep.QuietTactic
import Derived.BigQuiet
import Derived.WideLaws
import Derived.Deep.DeepCutAuto
import Derived.Deep.CutBlock
import Derived.Deep.RegionHeld3
import Derived.Laws.Rows
import Derived.Lib.AppendStr
import Derived.ArgAppend
import Derived.Laws.IdiomCopy
import Derived.OrdersHeld
import Derived.Laws.BitsLemmas
import Derived.RowKit
import Derived.StillTailTactics
import Derived.Test.YtlmcdkjobdcflaaDoorWWords
import Derived.Test.YtlmcdkjobdcflaaDoorWLast
import Derived.Test.YtlmcdkjobdcflaaDoorWMore
import Derived.Lib.Hide
import Derived.Outline
import Derived.Deep.MidRow
import Derived.Deep.WholeRow
import Derived.Deep.DrawnRows
import Derived.Test.YtlmcdkjobdcflaaDoorDepth
import Derived.Test.YtlmcdkjobdcflaaDoorClFA
import Derived.Test.YtlmcdkjobdcflaaDoorArrEq
/- Several texts in one. -/
/- The document's pair, and its node of a level: walked. -/
namespace Go.Proofs.YtlmcdkjobdcflaaDoor.Hand
open Go Go.RowKit Go.Proofs.YtlmcdkjobdcflaaDoor.Plain Go.Proofs.YtlmcdkjobdcflaaDoor.PAll Go.Proofs.YtlmcdkjobdcflaaDoorW.PrintWords Go.Proofs.YtlmcdkjobdcflaaDoorW.PrintLast Go.Proofs.YtlmcdkjobdcflaaDoorW.PrintMore
set_option linter.unusedVariables false
set_option linter.unusedSimpArgs false
set_option maxRecDepth 100000
attribute [local go_sem ↓] Go.wp_at_zero Go.wp_at_succ
attribute [-go_sem] loadVar storeVar Instr.buildSlice
theorem str_append (a b : List Int) : strOfNums (a ++ b) = strOfNums a ++ strOfNums b := by
  apply ByteArray.ext
  simp [strOfNums, ByteArray.data_append]
theorem below_of_drew {w w1 : World} (h : Below w.drew.heap.size w.drew w1) : Below w.heap.size w w1 := (below_drew (Below.refl _ w)).trans h
theorem setRow_alloc_end (w : World) (c c' : Array Value) (t : TypeId) : (w.alloc (.cells c t)).setRow w.heap.size c' = w.alloc (.cells c' t) := World.setRow_alloc_new w c c' t
set_option maxHeartbeats 2000000 in
theorem rpair_calls (p q : List Int) (w : World) (hp : p.length = 32) (hq : q.length = 32) (hpb : ∀ x ∈ p, 0 ≤ x ∧ x < 256) (hqb : ∀ x ∈ q, 0 ≤ x ∧ x < 256) :
    Calls Tryd.prog 24 #[.agg (nums .u8 p).toArray, .agg (nums .u8 q).toArray] w fun e w' => e = .returned (.agg (nums .u8 (twiceP (p ++ q))).toArray) ∧ Below w.heap.size w w' := by
  have HZ := (zero_of_info info32b).1
  obtain ⟨Z, hZ⟩ : ∃ C, nums .u8 (List.replicate 32 0) = C := ⟨_, rfl⟩
  have hZl : Z.length = 32 := by rw [← hZ]; rfl
  rw [hZ] at HZ
  have HT := Lib.hid (fun u => rtwice_calls (p ++ q) u (by simp [hp, hq]) (by
    intro x hx
    rcases List.mem_append.1 hx with h | h
    · exact hpb x h
    · exact hqb x h))
  have hadd : strOfNums p ++ strOfNums q = strOfNums (p ++ q) := (str_append p q).symm
  have hs1 := strOfNums_size p
  have hs2 := strOfNums_size q
  obtain ⟨W, hW⟩ : ∃ W, ((w.alloc (.cells (nums .u8 p).toArray 24)).alloc (.cells (nums .u8 q).toArray 24)).alloc (.cells Z.toArray 24) = W := ⟨_, rfl⟩
  have hWs : W.heap.size = w.heap.size + 3 := by rw [← hW]; simp
  have hWb : Below w.heap.size w W := by rw [← hW]; exact below_alloc (below_alloc (below_alloc (Below.refl _ _) _) _) _
  have hk0 : W.heap[w.heap.size]? = some (.cells (nums .u8 p).toArray 24 (0, 0)) := by rw [← hW]; exact blk_alloc (blk_alloc (heap_alloc_new w _) _) _
  have hk1 : W.heap[w.heap.size + 1]? = some (.cells (nums .u8 q).toArray 24 (0, 0)) := by
    rw [← hW]
    refine blk_alloc ?_ _
    have h := heap_alloc_new (w.alloc (.cells (nums .u8 p).toArray 24)) (.cells (nums .u8 q).toArray 24)
    rwa [World.size_alloc] at h
  have hk2 : W.heap[w.heap.size + 1 + 1]? = some (.cells Z.toArray 24 (0, 0)) := by
    rw [← hW]
    have h := heap_alloc_new ((w.alloc (.cells (nums .u8 p).toArray 24)).alloc (.cells (nums .u8 q).toArray 24)) (.cells Z.toArray 24)
    simpa using h
  have HSS := Lib.hid (show ∀ u : World, Below (w.heap.size + 2) W u → (convert 33 9 (.slice (some ⟨w.heap.size, 0, none⟩) 32 32)).run Tryd.prog u = .ok (.string (strOfNums p)) u ∧ (convert 33 9 (.slice (some ⟨w.heap.size + 1, 0, none⟩) 32 32)).run Tryd.prog u = .ok (.string (strOfNums q)) u from fun u hu => by
    constructor
    · have hC := C_of_block (pre := []) (post := []) (k := .u8) (ys := p) (o := 0) (t := 24) (fr := (0, 0)) (w := u) (b := w.heap.size) (by rw [List.nil_append, List.append_nil]; exact (hu.block _ (by omega)).trans hk0) rfl (by rw [hp]; decide)
      have h := Kd.C_string (P := Tryd.prog) (c := 32) Tryd.underlying33 Tryd.underlying5 Tryd.underlying9 hC
      rwa [hp] at h
    · have hC := C_of_block (pre := []) (post := []) (k := .u8) (ys := q) (o := 0) (t := 24) (fr := (0, 0)) (w := u) (b := w.heap.size + 1) (by rw [List.nil_append, List.append_nil]; exact (hu.block _ (by omega)).trans hk1) rfl (by rw [hq]; decide)
      have h := Kd.C_string (P := Tryd.prog) (c := 32) Tryd.underlying33 Tryd.underlying5 Tryd.underlying9 hC
      rwa [hq] at h)
  obtain ⟨P, hP⟩ : ∃ P, (nums .u8 p).toArray = P := ⟨_, rfl⟩
  obtain ⟨Q, hQ⟩ : ∃ P, (nums .u8 q).toArray = P := ⟨_, rfl⟩
  have hRl : (nums .u8 (twiceP (p ++ q))).length = 32 := by rw [nums_len]; exact twiceP_len _
  have hR1 := nums_one .u8 (twiceP (p ++ q))
  obtain ⟨R, hR⟩ : ∃ P, nums .u8 (twiceP (p ++ q)) = P := ⟨_, rfl⟩
  rw [hR] at hRl hR1 HT
  rw [hP, hQ] at hW
  rw [hP, hQ, hR]
  obtain ⟨T1, hT1⟩ : ∃ T, strOfNums p = T := ⟨_, rfl⟩
  obtain ⟨T2, hT2⟩ : ∃ T, strOfNums q = T := ⟨_, rfl⟩
  obtain ⟨T3, hT3⟩ : ∃ T, strOfNums (p ++ q) = T := ⟨_, rfl⟩
  rw [hT1] at HSS hadd hs1
  rw [hT2] at HSS hadd hs2
  rw [hT3] at HT hadd
  have hle : (9223372036854775807 < T1.size + T2.size) = False := eq_false (by rw [hs1, hs2]; omega)
  have hmax : T1.size + T2.size ≤ 9223372036854775807 := by rw [hs1, hs2]; omega
  have HTH := Lib.hid (show ∀ u : World, Below W.heap.size W u → u.there (w.heap.size + 1 + 1) 0 R.toArray.size from fun u hu => there_blk ((hu.block _ (by omega)).trans hk2) (by simp [hZl, hRl]))
  have HB0 := Lib.hid (below_drew (Below.refl (w.heap.size + 2) W))
  have HFIN := Lib.hid (And.intro hWs (And.intro hWb (And.intro hk2 (And.intro hZl hRl))))
  have hinf : (Tryd.prog.info? 24).map (·.size) = some R.length := by rw [hRl]; exact (zero_of_info info32b).2
  have hs := fun W g => slice_all32 W g
  have HU := Lib.hid Tryd.underlying24
  clear hWs hWb hk0 hk1 hk2 hZl hZ hp hq hpb hqb hP hQ hR hT1 hT2 hT3 hs1 hs2
  go_enter Tryd.func24, Tryd.ntmps24
  go_wp2_with fail
  go_region_held3 (fun u => (convert 33 9 (.slice (some ⟨w.heap.size, 0, none⟩) 32 32)).run Tryd.prog u = .ok (.string T1) u ∧ (convert 33 9 (.slice (some ⟨w.heap.size + 1, 0, none⟩) 32 32)).run Tryd.prog u = .ok (.string T2) u) (first | exact HSS.out _ HB5.out | exact HSS.out _ HB3.out | exact HSS.out _ HB0.out)
    (first
      | (go_at_call 55; (with_reducible refine (HT.out _).mono ?_); rintro e w3 ⟨rfl, hb3'⟩; have hb3 := below_of_drew hb3'; have hth := HTH.out w3 hb3; have HB3 := Lib.hid (Below.mono (B' := w.heap.size + 2) hb3 (by have := HFIN.out.1; show w.heap.size + 2 ≤ W.heap.size; omega)); have HB4 := Lib.hid hb3; have HB5 := Lib.hid (below_setCells' (b := w.heap.size + 1 + 1) (B := w.heap.size + 2) (by omega) R 0 w3 HB3.out); clear hb3 hb3'))
  go_wp2
  obtain ⟨hWs, hWb, hk2, hZl, hRl⟩ := HFIN.out
  have hk3 := heap_setCells_all ((HB4.out.block (w.heap.size + 1 + 1) (by omega)).trans hk2) (hZl.trans hRl.symm)
  exact bodyPost_ret (results_cell_row rfl _ _ (w.heap.size + 1 + 1) 24 R.toArray (0, 0) _ rfl hk3 HU.out rfl (by simpa using hinf)) rfl ⟨rfl, hWb.trans (Below.mono HB5.out (by omega))⟩
set_option maxHeartbeats 4000000 in
theorem rnode_calls (A : Option Addr) (n c : Nat) (xs : List (List Int)) (hn : n = xs.length) (hc : n ≤ c) (hl : n ≤ 100000) (hH : Hs xs) : ∀ (lvl at_ : Nat) (w : World), Kd.C kH w A n xs → at_ < wideP n lvl → lvl ≤ 1000 →
    Calls Tryd.prog 53 #[.slice A n c, .int .i64 (lvl : Int), .int .i64 (at_ : Int)] w fun e w' => e = .returned (.agg (nums .u8 (nodeP xs lvl at_)).toArray) ∧ Below w.heap.size w w'
  | 0, at_, w, hr, hat, hlv => by
    have HZ := (zero_of_info info32b).1
    obtain ⟨Z, hZ⟩ : ∃ C, (nums .u8 (List.replicate 32 0)).toArray = C := ⟨_, rfl⟩
    rw [hZ] at HZ
    have hat2 : at_ < n := hat
    obtain ⟨b, o, rfl, hbl, hrg⟩ := C_hash (by rw [← hn]; exact hr) (by omega)
    obtain ⟨hr0, hs0⟩ := hrg at_ (by omega)
    rw [show nodeP xs 0 at_ = rdH xs at_ from rfl]
    have hr1 : (w.alloc (.cells Z 24)).rangeAt b (o + at_ * 32) (nums .u8 (rdH xs at_)) := World.rangeAt_alloc hr0 _
    have hone := nums_one .u8 (rdH xs at_)
    have hPl : (nums .u8 (rdH xs at_)).length = 32 := by rw [nums_len]; exact hs0
    obtain ⟨P, hP⟩ : ∃ P, nums .u8 (rdH xs at_) = P := ⟨_, rfl⟩
    rw [hP] at hr1 hone hPl ⊢
    have hZ32 : Z.size = 32 := by rw [← hZ]; rfl
    have HF := Lib.hid (show (Tryd.prog.info? 24).map (·.size) = some P.length ∧ (Tryd.prog.info? 24).map (·.size) = some P.toArray.size ∧ Z.size = P.toArray.size ∧ P.toArray.all (·.oneCell') = true from
      ⟨by rw [hPl]; exact (zero_of_info info32b).2, by rw [List.size_toArray, hPl]; exact (zero_of_info info32b).2, hZ32.trans (by rw [List.size_toArray, hPl]), all_oneCell_toArray hone⟩)
    have HK := Lib.hid (heap_alloc_new w (.cells Z 24))
    have HU := Lib.hid Tryd.underlying24
    have HR1 := Lib.hid hr1
    have g1 : (at_ : Int) < (n : Int) := by omega
    clear hr hat hrg hr0 hs0 hr1 hone hPl hP hZ hZ32 hH hn hlv hat2
    go_enter Tryd.func53, Tryd.ntmps53
    go_wp2_with (first
      | ((with_reducible show wpList _ _ _ (Oper.mk _ (Op.load _ (.tmp 12)) _ _ _ _ :: _) _ _); (go_loud (refine wpList_load_mid rfl 24 (.tmp 12) rfl b (o + at_ * 32) rfl P _ HR1.out HU.out rfl HF.out.1 ?_)))
      | ((with_reducible show wpList _ _ _ (Oper.mk _ (Op.store _ _ _) _ _ _ _ :: _) _ _); (go_loud (refine wpList_store_row rfl 24 (.tmp 6) (.tmp 13) rfl w.heap.size P.toArray rfl rfl 24 Z HK.out HF.out.2.1 HF.out.2.2.1 HF.out.2.2.2 ?_))))
    exact bodyPost_ret (results_cell_row rfl _ _ w.heap.size 24 P.toArray (0, 0) _ rfl (setRow_heap _ _ _ _ _ _ HK.out) HU.out rfl HF.out.2.1) rfl ⟨rfl, below_setRow (below_alloc (Below.refl _ _) _) (Nat.le_refl _) _⟩
  | lvl + 1, at_, w, hr, hat, hlv => by
    have ih := fun (a : Nat) (u : World) (hu : Kd.C kH u A n xs) (ha : a < wideP n lvl) => rnode_calls A n c xs hn hc hl hH lvl a u hu ha (by omega)
    have HZ := (zero_of_info info32b).1
    obtain ⟨Z, hZ⟩ : ∃ C, nums .u8 (List.replicate 32 0) = C := ⟨_, rfl⟩
    have hZl : Z.length = 32 := by rw [← hZ]; rfl
    rw [hZ] at HZ
    have hw1 : at_ < (wideP n lvl + 1) / 2 := hat
    have hwle := wideP_le n lvl
    have hnode : nodeP xs (lvl + 1) at_ = if 2 * at_ + 1 ≥ wideP n lvl then twiceP (nodeP xs lvl (2 * at_) ++ nodeP xs lvl (2 * at_)) else twiceP (nodeP xs lvl (2 * at_) ++ nodeP xs lvl (2 * at_ + 1)) := by rw [nodeP, ← hn]
    have hhash : ∀ a, a < wideP n lvl → (nodeP xs lvl a).length = 32 ∧ ∀ x ∈ nodeP xs lvl a, 0 ≤ x ∧ x < 256 := fun a ha => by
      rw [nodeP_lev xs lvl a (by rw [← hn]; exact ha)]
      exact (lev_Hs hH lvl).any a
    obtain ⟨hp32, hpb⟩ := hhash (2 * at_) (by omega)
    have ih1 := ih (2 * at_) (w.alloc (.cells Z.toArray 24)) (Kd.C_alloc hr _) (by omega)
    rw [show ((2 * at_ : Nat) : Int) = 2 * (at_ : Int) by simp] at ih1
    obtain ⟨p, hpe⟩ : ∃ p, nodeP xs lvl (2 * at_) = p := ⟨_, rfl⟩
    rw [hpe] at hp32 hpb ih1 hnode
    have hPl : (nums .u8 p).length = 32 := by rw [nums_len]; exact hp32
    have hP1 := nums_one .u8 p
    have HPP := Lib.hid (fun u => rpair_calls p p u hp32 hp32 hpb hpb)
    have hR : (nodeP xs (lvl + 1) at_).length = 32 := by
      rw [hnode]
      split <;> exact twiceP_len _
    have hRl : (nums .u8 (nodeP xs (lvl + 1) at_)).length = 32 := by rw [nums_len]; exact hR
    have hR1 := nums_one .u8 (nodeP xs (lvl + 1) at_)
    have HF := Lib.hid (show ∀ L : List Value, L.length = 32 → (∀ v ∈ L, v.oneCell' = true) → (Tryd.prog.info? 24).map (·.size) = some L.toArray.size ∧ Z.toArray.size = L.toArray.size ∧ L.toArray.all (·.oneCell') = true from fun L hL h1 =>
      ⟨by rw [List.size_toArray, hL]; exact (zero_of_info info32b).2, by rw [List.size_toArray, List.size_toArray, hZl, hL], all_oneCell_toArray h1⟩)
    have HPF := Lib.hid (HF.out _ hPl hP1)
    have HRF := Lib.hid (HF.out _ hRl hR1)
    have HRL := Lib.hid (And.intro hRl hR1)
    have HPL := Lib.hid (And.intro hPl (And.intro hp32 hpb))
    obtain ⟨P, hP⟩ : ∃ P, nums .u8 p = P := ⟨_, rfl⟩
    obtain ⟨R, hRR⟩ : ∃ P, nums .u8 (nodeP xs (lvl + 1) at_) = P := ⟨_, rfl⟩
    rw [hP] at ih1 HPF HPL HPP
    have HPL2 := Lib.hid hP
    rw [hRR] at HRF HRL ⊢
    have HIH1 := Lib.hid ih1
    have HRR := Lib.hid (And.intro hRR hnode)
    have HU := Lib.hid Tryd.underlying24
    have HKR := Lib.hid (heap_alloc_new w (.cells Z.toArray 24))
    have HB1 := Lib.hid (below_alloc (Below.refl w.heap.size w) (.cells Z.toArray 24))
    have g0 : ((lvl : Int) + 1 == 0) = false := beq_eq_false_iff_ne.2 (by omega)
    have HIH := Lib.hid ih
    have HHS := Lib.hid hhash
    have HR0 := Lib.hid hr
    have HNN := Lib.hid hn
    clear hn ih1 ih hR hRl hR1 hPl hP1 hp32 hpb hpe hP hRR hnode hhash hr hat hZ hH
    go_enter Tryd.func53, Tryd.ntmps53
    go_wp2_with fail
    (with_reducible refine HIH1.out.mono ?_)
    rintro e w2 ⟨rfl, hb2⟩
    have HK2 := Lib.hid ((hb2.block _ (blk_lt HKR.out)).trans HKR.out)
    have HB2 := Lib.hid (HB1.out.trans (Below.mono hb2 HB1.out.size))
    clear hb2 HIH1
    go_wp2_with ((with_reducible show wpList _ _ _ (Oper.mk _ (Op.store _ _ _) _ _ _ _ :: _) _ _); (go_loud (refine wpl_store_new rfl 24 (.tmp 7) (.tmp 19) rfl Z.toArray P.toArray rfl rfl HPF.out.1 HPF.out.2.1 HPF.out.2.2 ?_)))
    have HK3 := Lib.hid (blk_alloc HK2.out (.cells P.toArray 24))
    have HB3 := Lib.hid (below_alloc HB2.out (.cells P.toArray 24))
    have HN3 := Lib.hid (heap_alloc_new w2 (.cells P.toArray 24))
    have HLT := Lib.hid (blk_lt HK2.out)
    (with_reducible refine (rwide_calls n lvl _ (by omega) (by omega)).mono ?_)
    rintro e w4 ⟨rfl, ⟨m, rfl⟩⟩
    have HK4 := Lib.hid (blk_drewN HK3.out m)
    have HN4 := Lib.hid (blk_drewN HN3.out m)
    have HB4 := Lib.hid (pw_below_drewN HB3.out m)
    have HZ4 := Lib.hid (show ((w2.alloc (.cells P.toArray 24)).drewN m).heap.size = w2.heap.size + 1 by show (w2.alloc (.cells P.toArray 24)).heap.size = w2.heap.size + 1; simp)
    obtain ⟨W4, hW4⟩ : ∃ W, (w2.alloc (.cells P.toArray 24)).drewN m = W := ⟨_, rfl⟩
    rw [hW4] at HK4 HN4 HB4 HZ4 ⊢
    clear HK2 HK3 HB2 HB3 HN3 hW4
    obtain ⟨V, hV⟩ : ∃ V, wideP n lvl = V := ⟨_, rfl⟩
    rw [hV] at hw1 hwle HHS HIH HRR ⊢
    by_cases hg : V ≤ 2 * at_ + 1
    · have g2 : decide ((V : Int) ≤ 2 * (at_ : Int) + 1) = true := decide_eq_true (by omega)
      have hRe : nums .u8 (twiceP (p ++ p)) = R := by rw [← HRR.out.1, HRR.out.2, if_pos hg]
      rw [hRe] at HPP
      clear hRe
      go_wp2_with (first
        | ((with_reducible show wpList _ _ _ (Oper.mk _ (Op.load _ (.tmp 7)) _ _ _ _ :: _) _ _); (go_loud (refine wpList_load_row rfl 24 (.tmp 7) rfl w2.heap.size rfl 24 P.toArray (0, 0) _ HN4.out HU.out rfl HPF.out.1 ?_)))
        | (go_at_call 24; (with_reducible refine (HPP.out _).mono ?_); rintro e w6 ⟨rfl, hb6⟩; have HB6 := Lib.hid (HB4.out.trans (Below.mono hb6 HB4.out.size)); have HK6 := Lib.hid ((hb6.block _ (blk_lt HK4.out)).trans HK4.out); clear hb6)
        | ((with_reducible show wpList _ _ _ (Oper.mk _ (Op.store _ _ _) _ _ _ _ :: _) _ _); (go_loud (refine wpList_store_row rfl 24 (.tmp 6) (.tmp 31) rfl w.heap.size R.toArray rfl rfl 24 Z.toArray HK6.out HRF.out.1 HRF.out.2.1 HRF.out.2.2 ?_))))
      exact bodyPost_ret (results_cell_row rfl _ _ w.heap.size 24 R.toArray (0, 0) _ rfl (setRow_heap _ _ _ _ _ _ HK6.out) HU.out rfl HRF.out.1) rfl ⟨rfl, below_setRow HB6.out (Nat.le_refl _) _⟩
    · have g2 : decide ((V : Int) ≤ 2 * (at_ : Int) + 1) = false := decide_eq_false (by omega)
      obtain ⟨hq32, hqb⟩ := HHS.out (2 * at_ + 1) (by omega)
      have ih2 := HIH.out (2 * at_ + 1) W4.drew (Kd.C_drew (Kd.C_below HR0.out HB4.out)) (by omega)
      rw [show ((2 * at_ + 1 : Nat) : Int) = 2 * (at_ : Int) + 1 by simp] at ih2
      have hRe : nums .u8 (twiceP (p ++ nodeP xs lvl (2 * at_ + 1))) = R := by rw [← HRR.out.1, HRR.out.2, if_neg (by omega)]
      have HPQ := Lib.hid (fun u => rpair_calls p (nodeP xs lvl (2 * at_ + 1)) u HPL.out.2.1 hq32 HPL.out.2.2 hqb)
      rw [hRe, HPL2.out] at HPQ
      obtain ⟨Q, hQ⟩ : ∃ Q, nums .u8 (nodeP xs lvl (2 * at_ + 1)) = Q := ⟨_, rfl⟩
      rw [hQ] at HPQ ih2
      have HIH2 := Lib.hid ih2
      have hlt := HLT.out
      have HSR := Lib.hid (show ∀ u : World, Below W4.heap.size W4 u → u.rangeAt w2.heap.size 0 P from fun u hu j v hj => by
        rw [Nat.zero_add, blk_cell ((hu.block _ (blk_lt HN4.out)).trans HN4.out), List.getElem?_toArray]
        exact hj)
      have HTH := Lib.hid (show ∀ u : World, Below W4.heap.size W4 u → u.there w.heap.size 0 R.toArray.size from fun u hu => there_blk ((hu.block _ (blk_lt HK4.out)).trans HK4.out) (by rw [← HRF.out.2.1]))
      have hu := Tryd.underlying24
      have hi1 : (Tryd.prog.info? 24).map (·.size) = some P.length := by rw [HPL.out.1]; exact (zero_of_info info32b).2
      have hi2 : (Tryd.prog.info? 24).map (·.size) = some R.length := by rw [HRL.out.1]; exact (zero_of_info info32b).2
      have hR1 := HRL.out.2
      have hv0 : IntKind.i64.wrap (2 * (at_ : Int)) = 2 * (at_ : Int) := IntWalk.i64_in _ (by omega)
      have hv1 : IntKind.i64.wrap (2 * (at_ : Int) + 1) = 2 * (at_ : Int) + 1 := IntWalk.i64_in _ (by omega)
      have hv2 : IntKind.i64.wrap (lvl : Int) = (lvl : Int) := IntWalk.i64_in _ (by omega)
      have HB40 := Lib.hid (below_drew (Below.refl W4.heap.size W4))
      clear ih2 hQ hRe hq32 hqb hlt
      go_wp2_with fail
      go_region_held3 (fun u => u.rangeAt w2.heap.size 0 P) (first | exact HS7.out | exact HSR.out _ HB6.out | exact HSR.out _ HB5.out | exact HSR.out _ HB40.out)
        (first
          | (go_at_call 53; (with_reducible refine HIH2.out.mono ?_); rintro e w5 ⟨rfl, hb5⟩; have HB5 := Lib.hid (below_of_drew hb5); clear hb5)
          | (go_at_call 24; (with_reducible refine (HPQ.out _).mono ?_); rintro e w6 ⟨rfl, hb6⟩; have HB6 := Lib.hid (HB5.out.trans (Below.mono hb6 HB5.out.size)); have hth := HTH.out w6 HB6.out; have HS7 := Lib.hid (World.rangeAt_setCells_apart (HSR.out w6 HB6.out) w.heap.size 0 R (.inl (by have := HLT.out; omega))); clear hb6))
      go_wp2
      have hk7 := (heap_setCells_all (vs := R) ((HB6.out.block _ (blk_lt HK4.out)).trans HK4.out) (by have := HRF.out.2.1; simpa using this))
      exact bodyPost_ret (results_cell_row rfl _ _ w.heap.size 24 R.toArray (0, 0) _ rfl hk7 HU.out rfl HRF.out.1) rfl ⟨rfl, below_setCells' (Nat.le_refl _) R 0 _ (HB4.out.trans (Below.mono HB6.out HB4.out.size))⟩
end Go.Proofs.YtlmcdkjobdcflaaDoor.Hand

/- The document's root of a list, and whether a list is doubled: walked. -/
namespace Go.Proofs.YtlmcdkjobdcflaaDoor.Hand
open Go Go.RowKit Go.Proofs.YtlmcdkjobdcflaaDoor.Plain Go.Proofs.YtlmcdkjobdcflaaDoor.PAll Go.Proofs.YtlmcdkjobdcflaaDoorW.PrintWords Go.Proofs.YtlmcdkjobdcflaaDoorW.PrintLast Go.Proofs.YtlmcdkjobdcflaaDoorW.PrintMore
set_option linter.unusedVariables false
set_option linter.unusedSimpArgs false
set_option maxRecDepth 100000
theorem eqR (S T : List Int) (hS : S.length = 32) (hT : T.length = 32) (w : World) : (Op.equalIn 10000 24 (.agg (nums .u8 S).toArray) (.agg (nums .u8 T).toArray)).run Tryd.prog w = .ok (S == T) w :=
  run_equalIn_nums (P := Tryd.prog) w 9998 24 5 32 .u8 Tryd.underlying24 Tryd.underlying5 (fun w => by rfl) S T hS hT
theorem built32 : Tryd.prog.built 24 [] = some (nums .u8 (List.replicate 32 0)).toArray := by kernel_rfl
theorem rootP_node {xs : List (List Int)} (h : 1 ≤ xs.length) : nodeP xs (depthP xs.length) 0 = rootP xs := by
  have hd := depthP_is xs.length
  rw [rootP_of hd, rootAt_depth hd h, nodeP_lev]
  exact wideP_pos h _
theorem depthP_le {n : Nat} (h : n ≤ 100000) : depthP n ≤ 1000 := by
  have := depth_le (depthP_is n) (m := 17) (by have : (2 : Nat) ^ 17 = 131072 := by decide
                                               omega)
  omega
end Go.Proofs.YtlmcdkjobdcflaaDoor.Hand

/- The law's lists: the document's form of a list of hashes, and a few small ones: walked. -/
namespace Go.Proofs.YtlmcdkjobdcflaaDoor.Hand
open Go Go.RowKit Go.Proofs.YtlmcdkjobdcflaaDoor.Plain Go.Proofs.YtlmcdkjobdcflaaDoor.PAll Go.Proofs.YtlmcdkjobdcflaaDoorW.PrintWords Go.Proofs.YtlmcdkjobdcflaaDoorW.PrintLast Go.Proofs.YtlmcdkjobdcflaaDoorW.PrintMore
set_option linter.unusedVariables false
set_option linter.unusedSimpArgs false
set_option maxRecDepth 100000
theorem run_load_u8 (w : World) (a : Addr) (v : Value) (h : w.cell? a = some v) : (loadVar 5 a).run Tryd.prog w = .ok v w := by
  go_simp
attribute [-go_sem] loadVar storeVar Instr.buildSlice
theorem info32c : (Tryd.prog.info? 24).map (fun i => (i.zero, i.size, i.bytes)) = some (some (.agg (nums .u8 (List.replicate 32 0)).toArray), 32, 32) := by kernel_rfl
theorem run_hash1r (p : List Int) (h : p.length = 32) (W : World) : (Instr.buildSlice 28 1 #[(0, .agg (nums .u8 p).toArray)]).run Tryd.prog W = .ok (.slice (some ⟨W.heap.size, 0, none⟩) 1 1) (W.alloc (.cells (nums .u8 p).toArray 24)) := by
  obtain ⟨x0, x1, x2, x3, x4, x5, x6, x7, x8, x9, x10, x11, x12, x13, x14, x15, x16, x17, x18, x19, x20, x21, x22, x23, x24, x25, x26, x27, x28, x29, x30, x31, rfl⟩ := list32 p h
  kernel_rfl
theorem take_hash {xs : List (List Int)} {k : Nat} (h : k < xs.length) : xs.take (k + 1) = xs.take k ++ [rdH xs k] := by
  rw [List.take_succ_eq_append_getElem h, rdH_eq h]
/-- A small hash. -/
def smallH (x : Int) : List Int := x :: List.replicate 31 0
theorem smallH_hash {x : Int} (h : 0 ≤ x ∧ x < 256) : (smallH x).length = 32 ∧ ∀ y ∈ smallH x, 0 ≤ y ∧ y < 256 := by
  refine ⟨by simp [smallH], fun y hy => ?_⟩
  rcases List.mem_cons.1 hy with rfl | hy
  · exact h
  · have := List.eq_of_mem_replicate hy
    omega
theorem built_small (x : Int) : Tryd.prog.built 25 [(0, .int .u8 x)] = some (nums .u8 (smallH x)).toArray := by kernel_rfl
def fewP (l : List Int) : List (List Int) := (l.take 20).map smallH
theorem fewP_Hs {l : List Int} (h : ∀ x ∈ l, 0 ≤ x ∧ x < 256) : Hs (fewP l) := by
  intro p hp
  simp only [fewP, List.mem_map] at hp
  obtain ⟨x, hx, rfl⟩ := hp
  exact smallH_hash (h x (List.mem_of_mem_take hx))
theorem fewP_take {l : List Int} {k : Nat} (h : k < l.length) (h2 : k < 20) : (fewP l).take (k + 1) = (fewP l).take k ++ [smallH (rd l (k : Int))] := by
  have hl : k < (fewP l).length := by simp [fewP]; omega
  rw [List.take_succ_eq_append_getElem hl]
  simp [fewP, rd, h]
end Go.Proofs.YtlmcdkjobdcflaaDoor.Hand

/- The law's lists, chapter 09's: walked (as chapter 08's refs). -/
namespace Go.Proofs.YtlmcdkjobdcflaaDoor.Hand
open Go Go.RowKit Go.Proofs.YtlmcdkjobdcflaaDoor.Plain Go.Proofs.YtlmcdkjobdcflaaDoor.PAll Go.Proofs.YtlmcdkjobdcflaaDoorW.PrintWords Go.Proofs.YtlmcdkjobdcflaaDoorW.PrintLast Go.Proofs.YtlmcdkjobdcflaaDoorW.PrintMore
set_option linter.unusedVariables false
set_option linter.unusedSimpArgs false
set_option maxRecDepth 100000
attribute [-go_sem] loadVar storeVar Instr.buildSlice
set_option maxHeartbeats 2000000 in
theorem refs9_calls (A : Option Addr) (n c : Nat) (xs : List (List Int)) (w : World) (hn : n = xs.length) (hr : Kd.C kH w A n xs) (hc : n ≤ c) (hl : n ≤ 100000) (hH : Hs xs) :
    Calls Tryd.prog 32 #[.slice A n c] w fun e w' => ∃ v, e = .returned v ∧ Kd.R kH 24 w' w.heap.size (fun _ => True) v xs ∧ Below w.heap.size w w' := by
  have HZ := (zero_of_info infoHash).1
  obtain ⟨Z, hZ⟩ : ∃ C, (nums .u8 (List.replicate 32 0)).toArray = C := ⟨_, rfl⟩
  rw [hZ] at HZ
  have hZ32 : Z.size = 32 := by rw [← hZ]; rfl
  have HR := Lib.hid hr
  have HN := Lib.hid (And.intro hn (And.intro hH hZ32))
  have HU := Lib.hid Tryd.underlying25
  clear hr hn hH hZ hZ32
  go_enter Tryd.func32, Tryd.ntmps32
  go_wp2_with fail
  go_loopw [3, 8] (fun v i wr => ∃ k : Nat, k ≤ n ∧ i = .int .i64 (k : Int) ∧ Hid (Kd.R kH 24 wr w.heap.size (fun _ => True) v (xs.take k) ∧ Below w.heap.size w wr)) (fun _ i _ => (n + 1 - (intOf i).toNat))
  case atStart => exact ⟨0, Nat.zero_le _, rfl, Lib.hid ⟨Kd.R_nil _ _ _ _ _, Below.refl _ _⟩⟩
  case round =>
    obtain ⟨k, hk, rfl, H⟩ := hrel
    obtain ⟨hR, hB⟩ := H.out
    by_cases hlt : k < n
    · have hklt : k < xs.length := by rw [← HN.out.1]; exact hlt
      obtain ⟨b, o, rfl, hbl, hrg⟩ := C_hash (by rw [← HN.out.1]; exact HR.out) (by omega)
      obtain ⟨hr0, hs0⟩ := hrg k hklt
      have hr1 := range_below hB hbl hr0
      have hg : decide ((k : Int) < (n : Int)) = true := decide_eq_true (by omega)
      have hg2 : (k : Int) < (n : Int) := by omega
      have hbs := fun u => run_hash1r (rdH xs k) hs0 u
      have hPl : (nums .u8 (rdH xs k)).length = 32 := by rw [nums_len]; exact hs0
      have hone := nums_one .u8 (rdH xs k)
      have hcm := fun (u : World) => kH_M (w := u) (base := w.heap.size) (ok := fun _ => False) hs0
      obtain ⟨P, hP⟩ : ∃ P, nums .u8 (rdH xs k) = P := ⟨_, rfl⟩
      rw [hP] at hbs hPl hone hcm hr1
      have HF := Lib.hid (show (Tryd.prog.info? 25).map (·.size) = some P.length ∧ (Tryd.prog.info? 25).map (·.size) = some P.toArray.size ∧ Z.size = P.toArray.size ∧ P.toArray.all (·.oneCell') = true from
        ⟨by rw [hPl]; exact (zero_of_info infoHash).2, by rw [List.size_toArray, hPl]; exact (zero_of_info infoHash).2, HN.out.2.2.trans (by rw [List.size_toArray, hPl]), all_oneCell_toArray hone⟩)
      have HR1 := Lib.hid hr1
      have HRR := Lib.hid (Kd.R_alloc hR (.cells P.toArray 25))
      have HBB := Lib.hid (below_alloc hB (.cells P.toArray 25))
      have HNK := Lib.hid (heap_alloc_new wr (.cells P.toArray 25))
      have HCM := Lib.hid hcm
      have HTL := Lib.hid (show ((xs.take k).length + 1) * 32 ≤ 140737488355328 by rw [List.length_take]; omega)
      have HTK := Lib.hid (take_hash hklt)
      clear hR hB H hrg hr0 hs0 hr1 hPl hone hcm hP hklt
      go_wp2_with (first
        | ((with_reducible show wpList _ _ _ (Oper.mk _ (Op.load _ (.tmp 10)) _ _ _ _ :: _) _ _); (go_loud (refine wpList_load_mid rfl 25 (.tmp 10) rfl b (o + k * 32) rfl P _ HR1.out HU.out rfl HF.out.1 ?_)))
        | ((with_reducible show wpList _ _ _ (Oper.mk _ (Op.load _ (.tmp 5)) _ _ _ _ :: _) _ _); (go_loud (refine wpList_load_row rfl 25 (.tmp 5) rfl wr.heap.size rfl 25 P.toArray (0, 0) _ HNK.out HU.out rfl HF.out.2.1 ?_)))
        | ((with_reducible show wpList _ _ _ (Oper.mk _ (Op.store _ _ _) _ _ _ _ :: _) _ _); (go_loud (refine wpl_store_new rfl 25 (.tmp 5) (.tmp 11) rfl Z P.toArray rfl rfl HF.out.2.1 HF.out.2.2.1 HF.out.2.2.2 ?_)))
        | ((with_reducible refine gate_builtin (b := .append) (xs := #[.tmp 12, .tmp 14]) rfl ?_); at_builtin; refine Kd.R_append kH (w0 := w) w.heap.size rfl (.tmp 12) (.tmp 14) 28 24 (.agg (nums .u8 (List.replicate 32 0)).toArray) 32 rfl Tryd.underlying28 info32c rfl (by decide) (by decide) _ (xs.take k) (rdH xs k) P (fun _ => True) (fun _ => False) rfl (by first | (go_simp; done) | (go_simp; rfl)) (HCM.out _) (fun _ h => h.elim) (fun _ _ => trivial) HRR.out HBB.out HBB.out.size HTL.out ?_; intro v4 w4 ho hb hg hat; have HR4 := Lib.hid ho; have HB4 := Lib.hid hb; clear ho hb hg hat))
      go_roundw
      case rel => exact ⟨k + 1, by omega, by go_num, Lib.hid ⟨by rw [HTK.out]; exact HR4.out, HB4.out⟩⟩
      case measure => simp only [intOf]; omega
    · have hg : decide ((k : Int) < (n : Int)) = false := decide_eq_false (by omega)
      have hx : xs.take k = xs := List.take_of_length_le (by rw [← HN.out.1]; omega)
      rw [hx] at hR
      have HRR := Lib.hid hR
      have HB := Lib.hid hB
      clear hR hB H hx
      go_wp2_with fail
      go_ret
      exact ⟨_, rfl, HRR.out, HB.out⟩
end Go.Proofs.YtlmcdkjobdcflaaDoor.Hand


/- Several texts in one. -/
/- The hash lists' awake: walked. -/
namespace Go.Proofs.YtlmcdkjobdcflaaDoor.Hand
open Go Go.RowKit Go.Proofs.YtlmcdkjobdcflaaDoor.Plain Go.Proofs.YtlmcdkjobdcflaaDoor.PAll Go.Proofs.YtlmcdkjobdcflaaDoorW.PrintWords Go.Proofs.YtlmcdkjobdcflaaDoorW.PrintLast Go.Proofs.YtlmcdkjobdcflaaDoorW.PrintMore
set_option linter.unusedVariables false
set_option linter.unusedSimpArgs false
set_option maxRecDepth 100000
attribute [local go_sem ↓] Go.wp_at_zero Go.wp_at_succ
attribute [-go_sem] loadVar storeVar Instr.buildSlice
theorem depth5 : depthP (5 : Int).toNat = 3 := by decide
theorem root_one (a : List Int) : rootP [a] = a := by
  have hd : IsDepth [a].length 0 := ⟨by simp, fun i hi => absurd hi (by omega)⟩
  rw [rootP_of hd, rootAt_depth hd (by simp)]
  rfl
theorem root_two (a b : List Int) : rootP [a, b] = twiceP (a ++ b) := by
  have hd : IsDepth [a, b].length 1 := ⟨by simp, fun i hi => by
    obtain rfl : i = 0 := by omega
    simp⟩
  rw [rootP_of hd, rootAt_depth hd (by simp), lev, lev, rdH_above (by simp), aboveAt]
  simp [rdH]
theorem doub_two (a : List Int) : doubP [a, a] = true := by
  have hd : IsDepth [a, a].length 1 := ⟨by simp, fun i hi => by
    obtain rfl : i = 0 := by omega
    simp⟩
  rw [doubP_of hd]
  refine doubAt_mono (i := 1) ?_ 2 (by omega)
  show (false || pairedP [a, a]) = true
  simp [pairedP, rdH]
theorem C_hash1 {w : World} {g : Nat} {t : TypeId} {fr : Nat × Nat} {p : List Int} (h : p.length = 32) (hb : w.heap[g]? = some (.cells (nums .u8 p).toArray t fr)) : Kd.C kH w (some ⟨g, 0, none⟩) 1 [p] :=
  C_of_hcs (xs := [p]) (by simpa [hcs] using hb) (by simp [h]) (by simp)
theorem C_hash2 {w : World} {g : Nat} {t : TypeId} {fr : Nat × Nat} {p q : List Int} (h : p.length = 32) (h2 : q.length = 32) (hb : w.heap[g]? = some (.cells (nums .u8 p ++ nums .u8 q).toArray t fr)) : Kd.C kH w (some ⟨g, 0, none⟩) 2 [p, q] :=
  C_of_hcs (xs := [p, q]) (by simpa [hcs] using hb) (by simp [h, h2]) (by simp)
theorem run_hash2 (x y : Int) (W : World) : (Instr.buildSlice 22 2 #[(0, .agg (nums .u8 (smallH x)).toArray), (1, .agg (nums .u8 (smallH y)).toArray)]).run Tryd.prog W = .ok (.slice (some ⟨W.heap.size, 0, none⟩) 2 2) (W.alloc (.cells (nums .u8 (smallH x) ++ nums .u8 (smallH y)).toArray 25)) := by
  kernel_rfl
end Go.Proofs.YtlmcdkjobdcflaaDoor.Hand

/- The laws MerkleRoots and MerkleDoubled: walked. -/
namespace Go.Proofs.YtlmcdkjobdcflaaDoor.Hand
open Go Go.RowKit Go.Proofs.YtlmcdkjobdcflaaDoor.Plain Go.Proofs.YtlmcdkjobdcflaaDoor.PAll Go.Proofs.YtlmcdkjobdcflaaDoorW.PrintWords Go.Proofs.YtlmcdkjobdcflaaDoorW.PrintLast Go.Proofs.YtlmcdkjobdcflaaDoorW.PrintMore
set_option linter.unusedVariables false
set_option linter.unusedSimpArgs false
set_option maxRecDepth 100000
theorem Hs_of {w : World} {A : Option Addr} {xs : List (List Int)} (h : Kd.C kH w A xs.length xs) (ok : ∀ x ∈ xs, ∀ y ∈ x, (Lit.int .u8 y).wf = true) : Hs xs := by
  intro p hp
  obtain ⟨i, hi, rfl⟩ := List.mem_iff_getElem.1 hp
  obtain ⟨b, o, _, _, hrg⟩ := C_hash h (by omega)
  have h1 := (hrg i hi).2
  rw [rdH_eq hi] at h1
  exact ⟨h1, Plain.wf_u8s (ok _ (List.getElem_mem hi))⟩
end Go.Proofs.YtlmcdkjobdcflaaDoor.Hand


/- Several texts in one. -/
/- What is wrong with a branch's numbers: the plain form, and walked. -/
namespace Go.Proofs.YtlmcdkjobdcflaaDoor.Hand
open Go Go.RowKit Go.Proofs.YtlmcdkjobdcflaaDoor.Plain Go.Proofs.YtlmcdkjobdcflaaDoor.PAll Go.Proofs.YtlmcdkjobdcflaaDoorW.PrintWords Go.Proofs.YtlmcdkjobdcflaaDoorW.PrintLast Go.Proofs.YtlmcdkjobdcflaaDoorW.PrintMore
set_option linter.unusedVariables false
set_option linter.unusedSimpArgs false
set_option maxRecDepth 100000
attribute [local go_sem ↓] Go.wp_at_zero Go.wp_at_succ
/-- A branch's value. -/
def bV (cnt idx : Int) (A : Option Addr) (m c : Nat) : Value := .agg #[.int .i64 cnt, .int .i64 idx, .slice A m c]
/-- What is wrong with its numbers. -/
def brightP (cnt idx : Int) (m : Nat) : Int := if cnt < 1 ∨ 65536 < cnt ∨ idx < 0 ∨ cnt ≤ idx then 5 else if m ≠ depthP cnt.toNat then 3 else 0
set_option maxHeartbeats 2000000 in
theorem bright_calls (cnt idx : Int) (A : Option Addr) (m c : Nat) (w : World) (hm : m ≤ 9223372036854775807) (h0 : -9223372036854775808 ≤ cnt) (h1 : cnt ≤ 9223372036854775807) :
    Calls Tryd.prog 37 #[bV cnt idx A m c] w fun e w' => e = .returned (.int .i64 (brightP cnt idx m)) ∧ Below w.heap.size w w' := by
  have HD := Lib.hid (fun u => depth_calls cnt u h0 h1)
  have hk := heap_alloc_new w (.cells #[.int .i64 cnt, .int .i64 idx, .slice A m c] 41)
  have k0 : (w.alloc (.cells #[.int .i64 cnt, .int .i64 idx, .slice A m c] 41)).cell? ⟨w.heap.size, 0, none⟩ = some (.int .i64 cnt) := (blk_cell hk 0).trans rfl
  have k1 : (w.alloc (.cells #[.int .i64 cnt, .int .i64 idx, .slice A m c] 41)).cell? ⟨w.heap.size, 1, none⟩ = some (.int .i64 idx) := (blk_cell hk 1).trans rfl
  have k2 : (w.alloc (.cells #[.int .i64 cnt, .int .i64 idx, .slice A m c] 41)).cell? ⟨w.heap.size, 2, none⟩ = some (.slice A m c) := (blk_cell hk 2).trans rfl
  have HB := Lib.hid (below_alloc (Below.refl w.heap.size w) (.cells #[.int .i64 cnt, .int .i64 idx, .slice A m c] 41))
  unfold bV
  by_cases hbad : cnt < 1 ∨ 65536 < cnt ∨ idx < 0 ∨ cnt ≤ idx
  · have hv : brightP cnt idx m = 5 := if_pos hbad
    clear HD
    rw [hv]
    clear hv
    go_enter Tryd.func37, Tryd.ntmps37
    go_wp2_with fail
    all_goals go_ret
    all_goals exact ⟨rfl, HB.out⟩
  · have f0 : ¬ cnt < 1 := by omega
    have f1 : ¬ 65536 < cnt := by omega
    have f2 : ¬ idx < 0 := by omega
    have f3 : ¬ cnt ≤ idx := by omega
    have hv0 : brightP cnt idx m = if m ≠ depthP cnt.toNat then 3 else 0 := if_neg hbad
    obtain ⟨D, hD⟩ : ∃ D, depthP cnt.toNat = D := ⟨_, rfl⟩
    rw [hD] at HD hv0
    clear hD hbad
    by_cases hmd : m = D
    · have hv : brightP cnt idx m = 0 := by rw [hv0, if_neg (by simpa using hmd)]
      subst hmd
      clear hv0
      rw [hv]
      clear hv
      go_enter Tryd.func37, Tryd.ntmps37
      go_wp2_with fail
      obtain ⟨W, hW⟩ : ∃ W, w.alloc (.cells #[.int .i64 cnt, .int .i64 idx, .slice A m c] 41) = W := ⟨_, rfl⟩
      rw [hW] at k0 k2 HB ⊢
      have HB1 := Lib.hid (below_drew HB.out)
      have hHeld : W.drew.cell? ⟨w.heap.size, 0, none⟩ = some (.int .i64 cnt) ∧ W.drew.cell? ⟨w.heap.size, 2, none⟩ = some (.slice A m c) := ⟨k0, k2⟩
      have HH := Lib.hid hHeld
      clear k0 k1 k2 hk hW
      refine wp_region_held (S := fun u => u.cell? ⟨w.heap.size, 0, none⟩ = some (.int .i64 cnt) ∧ u.cell? ⟨w.heap.size, 2, none⟩ = some (.slice A m c)) (by kernel_rfl) ?_
      change wpAnyH _ _ _ _ _ _ _ _ (World.drew _)
      refine wpAnyH_take (i := 0) (oi := ({ dst := some 25, op := Op.fieldAddr 41 (Operand.tmp 1) 2, type := 0, pos := "branch.go:37", after := #[], guard := none } : Oper)) (v := .pointer (some ⟨w.heap.size, 2, none⟩)) rfl (by kernel_rfl) (by kernel_rfl) (by kernel_rfl) (fun _ _ _ h => h) (Or.inl ⟨by rfl, fun w hSw => by go_simp⟩) hHeld ?_
      simp only [Act.put, List.setIfInBounds_toArray, List.set_cons_zero, List.set_cons_succ]
      refine wpAnyH_take (i := 1) (oi := ({ dst := some 26, op := Op.load 22 (Operand.tmp 25), type := 22, pos := "branch.go:37", after := #[{ on := 0, ground := Ground.data }], guard := none } : Oper)) (v := .slice A m c) rfl (by kernel_rfl) (by kernel_rfl) (by kernel_rfl) (fun _ _ _ h => h) (Or.inl ⟨by rfl, fun w hSw => by obtain ⟨z0, z2⟩ := hSw; go_simp⟩) hHeld ?_
      simp only [Act.put, List.setIfInBounds_toArray, List.set_cons_zero, List.set_cons_succ]
      refine wpAnyH_take (i := 2) (oi := ({ dst := some 27, op := Op.call { callee := Callee.builtin Builtin.len, args := #[Operand.tmp 26], argTypes := #[22] }, type := 3, pos := "branch.go:37", after := #[{ on := 1, ground := Ground.data }], guard := none } : Oper)) (v := .int .i64 (m : Int)) rfl (by kernel_rfl) (by kernel_rfl) (by kernel_rfl) (fun _ _ _ h => h) (Or.inl ⟨by rfl, fun w hSw => by go_simp⟩) hHeld ?_
      simp only [Act.put, List.setIfInBounds_toArray, List.set_cons_zero, List.set_cons_succ]
      refine wpAnyH_take (i := 3) (oi := ({ dst := some 28, op := Op.fieldAddr 41 (Operand.tmp 1) 0, type := 0, pos := "branch.go:37", after := #[], guard := none } : Oper)) (v := .pointer (some ⟨w.heap.size, 0, none⟩)) rfl (by kernel_rfl) (by kernel_rfl) (by kernel_rfl) (fun _ _ _ h => h) (Or.inl ⟨by rfl, fun w hSw => by go_simp⟩) hHeld ?_
      simp only [Act.put, List.setIfInBounds_toArray, List.set_cons_zero, List.set_cons_succ]
      refine wpAnyH_take (i := 4) (oi := ({ dst := some 29, op := Op.load 3 (Operand.tmp 28), type := 3, pos := "branch.go:37", after := #[{ on := 3, ground := Ground.data }], guard := none } : Oper)) (v := .int .i64 cnt) rfl (by kernel_rfl) (by kernel_rfl) (by kernel_rfl) (fun _ _ _ h => h) (Or.inl ⟨by rfl, fun w hSw => by obtain ⟨z0, z2⟩ := hSw; go_simp⟩) hHeld ?_
      simp only [Act.put, List.setIfInBounds_toArray, List.set_cons_zero, List.set_cons_succ]
      refine wpAnyH_ready (rs := [5]) (by kernel_rfl) (by simp) ?_
      refine AllReadyH.cons (o := ({ dst := some 30, op := Op.call { callee := Callee.value (Operand.func 28), args := #[Operand.tmp 29], argTypes := #[3] }, type := 3, pos := "branch.go:37", after := #[{ on := 4, ground := Ground.data }], guard := none } : Oper)) rfl (fun K hK => ?_) AllReadyH.nil
      go_simp
      (with_reducible refine (HD.out _).mono ?_)
      rintro e w3 ⟨rfl, rfl⟩
      refine hK.out _ _ (HH.out) (fun hHeld => ?_)
      clear hK K
      try simp only [Act.put, List.setIfInBounds_toArray, List.set_cons_zero, List.set_cons_succ]
      refine wpAnyH_take (i := 6) (oi := ({ dst := some 31, op := Op.binOp BinOp.neq 3 (Operand.tmp 27) (Operand.tmp 30) 3, type := 4, pos := "branch.go:37", after := #[{ on := 2, ground := Ground.data }, { on := 5, ground := Ground.data }], guard := none } : Oper)) (v := .bool false) rfl (by kernel_rfl) (by kernel_rfl) (by kernel_rfl) (fun _ _ _ h => h) (Or.inl ⟨by rfl, fun w hSw => by go_simp⟩) hHeld ?_
      simp only [Act.put, List.setIfInBounds_toArray, List.set_cons_zero, List.set_cons_succ]
      refine wpAnyH_take (i := 7) (oi := ({ dst := some 24, op := Op.assign (Operand.tmp 31), type := 4, pos := "branch.go:37", after := #[{ on := 6, ground := Ground.data }, { on := 5, ground := Ground.chain }], guard := none } : Oper)) (v := .bool false) rfl (by kernel_rfl) (by kernel_rfl) (by kernel_rfl) (fun _ _ _ h => h) (Or.inl ⟨by rfl, fun w hSw => by go_simp⟩) hHeld ?_
      simp only [Act.put, List.setIfInBounds_toArray, List.set_cons_zero, List.set_cons_succ]
      refine wpAnyH_done (by kernel_rfl) ?_ _
      clear hHeld
      go_wp2_with fail
      go_ret
      exact ⟨rfl, HB1.out⟩
    · have hv : brightP cnt idx m = 3 := by rw [hv0, if_pos hmd]
      have hmi : ¬ (m : Int) = (D : Int) := by omega
      clear hv0
      rw [hv]
      clear hv
      go_enter Tryd.func37, Tryd.ntmps37
      go_wp2_with fail
      obtain ⟨W, hW⟩ : ∃ W, w.alloc (.cells #[.int .i64 cnt, .int .i64 idx, .slice A m c] 41) = W := ⟨_, rfl⟩
      rw [hW] at k0 k2 HB ⊢
      have HB1 := Lib.hid (below_drew HB.out)
      have hHeld : W.drew.cell? ⟨w.heap.size, 0, none⟩ = some (.int .i64 cnt) ∧ W.drew.cell? ⟨w.heap.size, 2, none⟩ = some (.slice A m c) := ⟨k0, k2⟩
      have HH := Lib.hid hHeld
      clear k0 k1 k2 hk hW
      refine wp_region_held (S := fun u => u.cell? ⟨w.heap.size, 0, none⟩ = some (.int .i64 cnt) ∧ u.cell? ⟨w.heap.size, 2, none⟩ = some (.slice A m c)) (by kernel_rfl) ?_
      change wpAnyH _ _ _ _ _ _ _ _ (World.drew _)
      refine wpAnyH_take (i := 0) (oi := ({ dst := some 25, op := Op.fieldAddr 41 (Operand.tmp 1) 2, type := 0, pos := "branch.go:37", after := #[], guard := none } : Oper)) (v := .pointer (some ⟨w.heap.size, 2, none⟩)) rfl (by kernel_rfl) (by kernel_rfl) (by kernel_rfl) (fun _ _ _ h => h) (Or.inl ⟨by rfl, fun w hSw => by go_simp⟩) hHeld ?_
      simp only [Act.put, List.setIfInBounds_toArray, List.set_cons_zero, List.set_cons_succ]
      refine wpAnyH_take (i := 1) (oi := ({ dst := some 26, op := Op.load 22 (Operand.tmp 25), type := 22, pos := "branch.go:37", after := #[{ on := 0, ground := Ground.data }], guard := none } : Oper)) (v := .slice A m c) rfl (by kernel_rfl) (by kernel_rfl) (by kernel_rfl) (fun _ _ _ h => h) (Or.inl ⟨by rfl, fun w hSw => by obtain ⟨z0, z2⟩ := hSw; go_simp⟩) hHeld ?_
      simp only [Act.put, List.setIfInBounds_toArray, List.set_cons_zero, List.set_cons_succ]
      refine wpAnyH_take (i := 2) (oi := ({ dst := some 27, op := Op.call { callee := Callee.builtin Builtin.len, args := #[Operand.tmp 26], argTypes := #[22] }, type := 3, pos := "branch.go:37", after := #[{ on := 1, ground := Ground.data }], guard := none } : Oper)) (v := .int .i64 (m : Int)) rfl (by kernel_rfl) (by kernel_rfl) (by kernel_rfl) (fun _ _ _ h => h) (Or.inl ⟨by rfl, fun w hSw => by go_simp⟩) hHeld ?_
      simp only [Act.put, List.setIfInBounds_toArray, List.set_cons_zero, List.set_cons_succ]
      refine wpAnyH_take (i := 3) (oi := ({ dst := some 28, op := Op.fieldAddr 41 (Operand.tmp 1) 0, type := 0, pos := "branch.go:37", after := #[], guard := none } : Oper)) (v := .pointer (some ⟨w.heap.size, 0, none⟩)) rfl (by kernel_rfl) (by kernel_rfl) (by kernel_rfl) (fun _ _ _ h => h) (Or.inl ⟨by rfl, fun w hSw => by go_simp⟩) hHeld ?_
      simp only [Act.put, List.setIfInBounds_toArray, List.set_cons_zero, List.set_cons_succ]
      refine wpAnyH_take (i := 4) (oi := ({ dst := some 29, op := Op.load 3 (Operand.tmp 28), type := 3, pos := "branch.go:37", after := #[{ on := 3, ground := Ground.data }], guard := none } : Oper)) (v := .int .i64 cnt) rfl (by kernel_rfl) (by kernel_rfl) (by kernel_rfl) (fun _ _ _ h => h) (Or.inl ⟨by rfl, fun w hSw => by obtain ⟨z0, z2⟩ := hSw; go_simp⟩) hHeld ?_
      simp only [Act.put, List.setIfInBounds_toArray, List.set_cons_zero, List.set_cons_succ]
      refine wpAnyH_ready (rs := [5]) (by kernel_rfl) (by simp) ?_
      refine AllReadyH.cons (o := ({ dst := some 30, op := Op.call { callee := Callee.value (Operand.func 28), args := #[Operand.tmp 29], argTypes := #[3] }, type := 3, pos := "branch.go:37", after := #[{ on := 4, ground := Ground.data }], guard := none } : Oper)) rfl (fun K hK => ?_) AllReadyH.nil
      go_simp
      (with_reducible refine (HD.out _).mono ?_)
      rintro e w3 ⟨rfl, rfl⟩
      refine hK.out _ _ (HH.out) (fun hHeld => ?_)
      clear hK K
      try simp only [Act.put, List.setIfInBounds_toArray, List.set_cons_zero, List.set_cons_succ]
      refine wpAnyH_take (i := 6) (oi := ({ dst := some 31, op := Op.binOp BinOp.neq 3 (Operand.tmp 27) (Operand.tmp 30) 3, type := 4, pos := "branch.go:37", after := #[{ on := 2, ground := Ground.data }, { on := 5, ground := Ground.data }], guard := none } : Oper)) (v := .bool true) rfl (by kernel_rfl) (by kernel_rfl) (by kernel_rfl) (fun _ _ _ h => h) (Or.inl ⟨by rfl, fun w hSw => by go_simp⟩) hHeld ?_
      simp only [Act.put, List.setIfInBounds_toArray, List.set_cons_zero, List.set_cons_succ]
      refine wpAnyH_take (i := 7) (oi := ({ dst := some 24, op := Op.assign (Operand.tmp 31), type := 4, pos := "branch.go:37", after := #[{ on := 6, ground := Ground.data }, { on := 5, ground := Ground.chain }], guard := none } : Oper)) (v := .bool true) rfl (by kernel_rfl) (by kernel_rfl) (by kernel_rfl) (fun _ _ _ h => h) (Or.inl ⟨by rfl, fun w hSw => by go_simp⟩) hHeld ?_
      simp only [Act.put, List.setIfInBounds_toArray, List.set_cons_zero, List.set_cons_succ]
      refine wpAnyH_done (by kernel_rfl) ?_ _
      clear hHeld
      go_wp2_with fail
      go_ret
      exact ⟨rfl, HB1.out⟩
end Go.Proofs.YtlmcdkjobdcflaaDoor.Hand

/- From a leaf up, by a branch: the plain form, and walked. -/
namespace Go.Proofs.YtlmcdkjobdcflaaDoor.Hand
open Go Go.RowKit Go.Proofs.YtlmcdkjobdcflaaDoor.Plain Go.Proofs.YtlmcdkjobdcflaaDoor.PAll Go.Proofs.YtlmcdkjobdcflaaDoorW.PrintWords Go.Proofs.YtlmcdkjobdcflaaDoorW.PrintLast Go.Proofs.YtlmcdkjobdcflaaDoorW.PrintMore
set_option linter.unusedVariables false
set_option linter.unusedSimpArgs false
set_option maxRecDepth 100000
attribute [local go_sem ↓] Go.wp_at_zero Go.wp_at_succ
theorem run_load_i64 (w : World) (a : Addr) (v : Value) (h : w.cell? a = some v) : (loadVar 3 a).run Tryd.prog w = .ok v w := by
  go_simp
theorem run_load_hs (w : World) (a : Addr) (v : Value) (h : w.cell? a = some v) : (loadVar 22 a).run Tryd.prog w = .ok v w := by
  go_simp
attribute [-go_sem] loadVar storeVar Instr.buildSlice
/-- The way up: none where a place that may not be doubled is, or one that must be is not. -/
def upF : List (List Int) → Nat → Nat → List Int → Option (List Int)
  | [], _, _, leaf => some leaf
  | h :: hs, p, n, leaf => if ((p % 2 == 0 && p == n - 1) != (h == leaf)) = true then none else upF hs (p / 2) ((n + 1) / 2) (if p % 2 = 0 then twiceP (leaf ++ h) else twiceP (h ++ leaf))
def upP (cnt idx : Int) (xs : List (List Int)) (leaf : List Int) : List Int × Int :=
  if brightP cnt idx xs.length ≠ 0 then (z32h, brightP cnt idx xs.length) else match upF xs idx.toNat cnt.toNat leaf with
    | none => (z32h, 15)
    | some x => (x, 0)
theorem upF_cons {xs : List (List Int)} {k : Nat} (h : k < xs.length) (p n : Nat) (leaf : List Int) : upF (xs.drop k) p n leaf = if ((p % 2 == 0 && p == n - 1) != (rdH xs k == leaf)) = true then none else upF (xs.drop (k + 1)) (p / 2) ((n + 1) / 2) (if p % 2 = 0 then twiceP (leaf ++ rdH xs k) else twiceP (rdH xs k ++ leaf)) := by
  rw [List.drop_eq_getElem_cons h, upF, rdH_eq h]
theorem upF_nil {xs : List (List Int)} {k : Nat} (h : xs.length ≤ k) (p n : Nat) (leaf : List Int) : upF (xs.drop k) p n leaf = some leaf := by
  rw [List.drop_of_length_le h, upF]
theorem infoB : (Tryd.prog.info? 41).map (·.size) = some 3 := by kernel_rfl
theorem built_hash0 : Tryd.prog.built 25 [] = some (nums .u8 z32h).toArray := by kernel_rfl
theorem alloc3 (w : World) (a b c : Obj) : ((((w.alloc a).alloc b).alloc c).heap[w.heap.size]? = some a ∧ (((w.alloc a).alloc b).alloc c).heap[w.heap.size + 1]? = some b ∧ (((w.alloc a).alloc b).alloc c).heap[w.heap.size + 1 + 1]? = some c) := by
  have s1 : ((w.alloc a).alloc b).heap.size = w.heap.size + 2 := by
    show ((w.heap.push a).push b).size = _
    simp
  refine ⟨blk_alloc (heap_alloc2_old w a b) c, blk_alloc (heap_alloc2_new w a b) c, ?_⟩
  have h := heap_alloc_new ((w.alloc a).alloc b) c
  rwa [s1] at h
end Go.Proofs.YtlmcdkjobdcflaaDoor.Hand

/- Does a branch lead to a root: the plain form, and walked. -/
namespace Go.Proofs.YtlmcdkjobdcflaaDoor.Hand
open Go Go.RowKit Go.Proofs.YtlmcdkjobdcflaaDoor.Plain Go.Proofs.YtlmcdkjobdcflaaDoor.PAll Go.Proofs.YtlmcdkjobdcflaaDoorW.PrintWords Go.Proofs.YtlmcdkjobdcflaaDoorW.PrintLast Go.Proofs.YtlmcdkjobdcflaaDoorW.PrintMore
set_option linter.unusedVariables false
set_option linter.unusedSimpArgs false
set_option maxRecDepth 100000
attribute [local go_sem ↓] Go.wp_at_zero Go.wp_at_succ
attribute [-go_sem] loadVar storeVar Instr.buildSlice
theorem upF_hash : ∀ (xs : List (List Int)) (p n : Nat) (leaf x : List Int), (leaf.length = 32 ∧ ∀ y ∈ leaf, 0 ≤ y ∧ y < 256) → upF xs p n leaf = some x → x.length = 32 ∧ ∀ y ∈ x, 0 ≤ y ∧ y < 256
  | [], p, n, leaf, x, h, e => by
    rw [upF] at e
    injection e with e
    exact e ▸ h
  | y :: xs, p, n, leaf, x, h, e => by
    rw [upF] at e
    split at e
    · cases e
    · refine upF_hash xs _ _ _ x ?_ e
      split
      · exact ⟨twiceP_len _, twiceP_bytes _⟩
      · exact ⟨twiceP_len _, twiceP_bytes _⟩
theorem upP_hash (cnt idx : Int) (xs : List (List Int)) {leaf : List Int} (h : leaf.length = 32 ∧ ∀ y ∈ leaf, 0 ≤ y ∧ y < 256) : (upP cnt idx xs leaf).1.length = 32 ∧ ∀ y ∈ (upP cnt idx xs leaf).1, 0 ≤ y ∧ y < 256 := by
  unfold upP
  split
  · exact z32h_hash
  · cases hu : upF xs idx.toNat cnt.toNat leaf with
    | none => exact z32h_hash
    | some x => exact upF_hash _ _ _ _ x h hu
def checkP (cnt idx : Int) (xs : List (List Int)) (root leaf : List Int) : Int := if (upP cnt idx xs leaf).2 = 0 then (if ((upP cnt idx xs leaf).1 == root) = true then 0 else 15) else (upP cnt idx xs leaf).2
end Go.Proofs.YtlmcdkjobdcflaaDoor.Hand

/- The law's Ref of a branch: walked. -/
namespace Go.Proofs.YtlmcdkjobdcflaaDoor.Hand
open Go Go.RowKit Go.Proofs.YtlmcdkjobdcflaaDoor.Plain Go.Proofs.YtlmcdkjobdcflaaDoor.PAll Go.Proofs.YtlmcdkjobdcflaaDoorW.PrintWords Go.Proofs.YtlmcdkjobdcflaaDoorW.PrintLast Go.Proofs.YtlmcdkjobdcflaaDoorW.PrintMore
set_option linter.unusedVariables false
set_option linter.unusedSimpArgs false
set_option maxRecDepth 100000
attribute [local go_sem ↓] Go.wp_at_zero Go.wp_at_succ
attribute [-go_sem] loadVar storeVar Instr.buildSlice
theorem infoR9 : (Tryd.prog.info? 46).map (fun i => (i.zero, i.size)) = some (some (.agg #[.int .i64 0, .int .i64 0, .slice none 0 0]), 3) := by kernel_rfl
theorem built_ref9 (cnt idx : Int) (A : Option Addr) (m c : Nat) : Tryd.prog.built 46 [(0, .int .i64 cnt), (1, .int .i64 idx), (2, .slice A m c)] = some #[.int .i64 cnt, .int .i64 idx, .slice A m c] := by kernel_rfl
theorem C_setRow {w : World} {g : Nat} {cs : Array Value} {A : Option Addr} {xs : List (List Int)} (hC : Kd.C kH w A xs.length xs) (h32 : ∀ p ∈ xs, p.length = 32) (h : ∀ b o, A = some ⟨b, o, none⟩ → b ≠ g) : Kd.C kH (w.setRow g cs) A xs.length xs := by
  by_cases h0 : xs.length = 0
  · exact ⟨rfl, Kd.C_max hC, fun hp => absurd hp (by omega)⟩
  · obtain ⟨b, o, rfl, hb, hrg⟩ := C_hash hC (by omega)
    have hne := h b o rfl
    refine C_of_ranges (fun i hi j v hj => ?_) h32 (Kd.C_max hC)
    have h1 := (hrg i hi).1 j v hj
    have h2 : (w.setRow g cs).heap[b]? = w.heap[b]? := setRow_other _ _ _ _ hne
    unfold World.cell? at h1 ⊢
    rw [h2]
    exact h1
set_option maxHeartbeats 4000000 in
theorem lref9_calls (cnt idx : Int) (A : Option Addr) (m c : Nat) (xs : List (List Int)) (w : World) (hm : m = xs.length) (hr : Kd.C kH w A m xs) (hc : m ≤ c) (hl : m ≤ 100000) (hH : Hs xs) :
    Calls Tryd.prog 36 #[bV cnt idx A m c] w fun e w' => ∃ A2 c2, e = .returned (bV cnt idx A2 m c2) ∧ m ≤ c2 ∧ Kd.C kH w' A2 m xs ∧ Below w.heap.size w w' := by
  have hz := (zero_of_info infoR9).1
  have HRF := Lib.hid (fun (u : World) (hu : Below w.heap.size w u) => refs9_calls A m c xs u hm (Kd.C_below hr hu) hc hl hH)
  have HM := Lib.hid hm
  have HH := Lib.hid (And.intro True.intro (fun p hp => (hH p hp).1 : ∀ p ∈ xs, p.length = 32))
  have hA0 := heap_alloc2_old w (.cells #[.int .i64 cnt, .int .i64 idx, .slice A m c] 41) (.cells #[.int .i64 0, .int .i64 0, .slice none 0 0] 46)
  have hZ0 := heap_alloc2_new w (.cells #[.int .i64 cnt, .int .i64 idx, .slice A m c] 41) (.cells #[.int .i64 0, .int .i64 0, .slice none 0 0] 46)
  have HB0 := Lib.hid (below_alloc (below_alloc (Below.refl w.heap.size w) (.cells #[.int .i64 cnt, .int .i64 idx, .slice A m c] 41)) (.cells #[.int .i64 0, .int .i64 0, .slice none 0 0] 46))
  obtain ⟨W0, hW0⟩ : ∃ W0, (w.alloc (.cells #[.int .i64 cnt, .int .i64 idx, .slice A m c] 41)).alloc (.cells #[.int .i64 0, .int .i64 0, .slice none 0 0] 46) = W0 := ⟨_, rfl⟩
  rw [hW0] at hA0 hZ0 HB0
  have HZ0 := Lib.hid hZ0
  have HA0 := Lib.hid hA0
  have HS := Lib.hid (show ∀ u : World, Below W0.heap.size W0 u → (loadVar 3 ⟨w.heap.size, 0, none⟩).run Tryd.prog u = .ok (.int .i64 cnt) u ∧ (loadVar 3 ⟨w.heap.size, 1, none⟩).run Tryd.prog u = .ok (.int .i64 idx) u ∧ (loadVar 22 ⟨w.heap.size, 2, none⟩).run Tryd.prog u = .ok (.slice A m c) u from fun u hu => by
    have hk := (hu.block _ (blk_lt hA0)).trans hA0
    exact ⟨run_load_i64 _ _ _ ((blk_cell hk 0).trans rfl), run_load_i64 _ _ _ ((blk_cell hk 1).trans rfl), run_load_hs _ _ _ ((blk_cell hk 2).trans rfl)⟩)
  have HW0 := Lib.hid hW0
  have HU := Lib.hid (And.intro Tryd.underlying46 (zero_of_info infoR9).2)
  unfold bV
  clear hA0 hZ0 hW0 hm hr hH
  go_enter Tryd.func36, Tryd.ntmps36
  go_wp2_with fail
  rw [HW0.out]
  have HB1 := Lib.hid (below_drew (Below.refl W0.heap.size W0))
  have hHeld := HS.out _ HB1.out
  refine wp_region_held (S := fun u => (loadVar 3 ⟨w.heap.size, 0, none⟩).run Tryd.prog u = .ok (.int .i64 cnt) u ∧ (loadVar 3 ⟨w.heap.size, 1, none⟩).run Tryd.prog u = .ok (.int .i64 idx) u ∧ (loadVar 22 ⟨w.heap.size, 2, none⟩).run Tryd.prog u = .ok (.slice A m c) u) (by kernel_rfl) ?_
  change wpAnyH _ _ _ _ _ _ _ _ (World.drew _)
  refine wpAnyH_take (i := 0) (oi := ({ dst := some 3, op := Op.fieldAddr 41 (Operand.tmp 1) 0, type := 0, pos := "law.go:30", after := #[], guard := none } : Oper)) (v := .pointer (some ⟨w.heap.size, 0, none⟩)) rfl (by kernel_rfl) (by kernel_rfl) (by kernel_rfl) (fun _ _ _ h => h) (Or.inl ⟨by rfl, fun w hSw => by go_simp⟩) hHeld ?_
  simp only [Act.put, List.setIfInBounds_toArray, List.set_cons_zero, List.set_cons_succ]
  refine wpAnyH_take (i := 1) (oi := ({ dst := some 4, op := Op.load 3 (Operand.tmp 3), type := 3, pos := "law.go:30", after := #[{ on := 0, ground := Ground.data }], guard := none } : Oper)) (v := .int .i64 cnt) rfl (by kernel_rfl) (by kernel_rfl) (by kernel_rfl) (fun _ _ _ h => h) (Or.inl ⟨by rfl, fun w hSw => by obtain ⟨z0, z1, z2⟩ := hSw; go_simp⟩) hHeld ?_
  simp only [Act.put, List.setIfInBounds_toArray, List.set_cons_zero, List.set_cons_succ]
  refine wpAnyH_take (i := 2) (oi := ({ dst := some 5, op := Op.fieldAddr 41 (Operand.tmp 1) 1, type := 0, pos := "law.go:30", after := #[], guard := none } : Oper)) (v := .pointer (some ⟨w.heap.size, 1, none⟩)) rfl (by kernel_rfl) (by kernel_rfl) (by kernel_rfl) (fun _ _ _ h => h) (Or.inl ⟨by rfl, fun w hSw => by go_simp⟩) hHeld ?_
  simp only [Act.put, List.setIfInBounds_toArray, List.set_cons_zero, List.set_cons_succ]
  refine wpAnyH_take (i := 3) (oi := ({ dst := some 6, op := Op.load 3 (Operand.tmp 5), type := 3, pos := "law.go:30", after := #[{ on := 2, ground := Ground.data }], guard := none } : Oper)) (v := .int .i64 idx) rfl (by kernel_rfl) (by kernel_rfl) (by kernel_rfl) (fun _ _ _ h => h) (Or.inl ⟨by rfl, fun w hSw => by obtain ⟨z0, z1, z2⟩ := hSw; go_simp⟩) hHeld ?_
  simp only [Act.put, List.setIfInBounds_toArray, List.set_cons_zero, List.set_cons_succ]
  refine wpAnyH_take (i := 4) (oi := ({ dst := some 7, op := Op.fieldAddr 41 (Operand.tmp 1) 2, type := 0, pos := "law.go:30", after := #[], guard := none } : Oper)) (v := .pointer (some ⟨w.heap.size, 2, none⟩)) rfl (by kernel_rfl) (by kernel_rfl) (by kernel_rfl) (fun _ _ _ h => h) (Or.inl ⟨by rfl, fun w hSw => by go_simp⟩) hHeld ?_
  simp only [Act.put, List.setIfInBounds_toArray, List.set_cons_zero, List.set_cons_succ]
  refine wpAnyH_take (i := 5) (oi := ({ dst := some 8, op := Op.load 22 (Operand.tmp 7), type := 22, pos := "law.go:30", after := #[{ on := 4, ground := Ground.data }], guard := none } : Oper)) (v := .slice A m c) rfl (by kernel_rfl) (by kernel_rfl) (by kernel_rfl) (fun _ _ _ h => h) (Or.inl ⟨by rfl, fun w hSw => by obtain ⟨z0, z1, z2⟩ := hSw; go_simp⟩) hHeld ?_
  simp only [Act.put, List.setIfInBounds_toArray, List.set_cons_zero, List.set_cons_succ]
  refine wpAnyH_ready (rs := [6]) (by kernel_rfl) (by simp) ?_
  refine AllReadyH.cons (o := ({ dst := some 9, op := Op.call { callee := Callee.value (Operand.func 32), args := #[Operand.tmp 8], argTypes := #[22] }, type := 28, pos := "law.go:30", after := #[{ on := 5, ground := Ground.data }], guard := none } : Oper)) rfl (fun K hK => ?_) AllReadyH.nil
  go_simp
  (with_reducible refine (HRF.out _ (below_drew HB0.out)).mono ?_)
  rintro e w3 ⟨v, rfl, hv, hb3⟩
  obtain ⟨A3, c3, rfl, hc3, hC3⟩ := Kd.R_reads hv
  rw [← HM.out] at hc3 hC3 ⊢
  have HC3 := Lib.hid (And.intro hc3 (C_setRow (g := w.heap.size + 1) (cs := #[.int .i64 cnt, .int .i64 idx, .slice A3 m c3]) (by rw [← HM.out]; exact hC3) HH.out.2 (fun b o e => by subst e; have h7 := Kd.R_base hv b rfl; have h8 := blk_lt HZ0.out; have h9 : W0.drew.heap.size = W0.heap.size := rfl; omega)))
  have HB3 := Lib.hid (HB1.out.trans (Below.mono hb3 HB1.out.size))
  clear hv hc3 hC3 hb3
  go_wp2_with fail
  refine hK.out _ _ (HS.out _ HB3.out) (fun hHeld => ?_)
  clear hK K
  try simp only [Act.put, List.setIfInBounds_toArray, List.set_cons_zero, List.set_cons_succ]
  have hbu := fun u => run_build (P := Tryd.prog) u 46 #[(0, .int .i64 cnt), (1, .int .i64 idx), (2, .slice A3 m c3)] _ (built_ref9 cnt idx A3 m c3)
  have HZ3 := Lib.hid ((HB3.out.block _ (blk_lt HZ0.out)).trans HZ0.out)
  have HS5 := Lib.hid (show (loadVar 3 ⟨w.heap.size, 0, none⟩).run Tryd.prog (w3.setRow (w.heap.size + 1) #[.int .i64 cnt, .int .i64 idx, .slice A3 m c3]) = .ok (.int .i64 cnt) _ ∧ (loadVar 3 ⟨w.heap.size, 1, none⟩).run Tryd.prog (w3.setRow (w.heap.size + 1) #[.int .i64 cnt, .int .i64 idx, .slice A3 m c3]) = .ok (.int .i64 idx) _ ∧ (loadVar 22 ⟨w.heap.size, 2, none⟩).run Tryd.prog (w3.setRow (w.heap.size + 1) #[.int .i64 cnt, .int .i64 idx, .slice A3 m c3]) = .ok (.slice A m c) _ from by
    have hk := (setRow_other w3 (w.heap.size + 1) w.heap.size #[.int .i64 cnt, .int .i64 idx, .slice A3 m c3] (by omega)).trans ((HB3.out.block _ (blk_lt HA0.out)).trans HA0.out)
    exact ⟨run_load_i64 _ _ _ ((blk_cell hk 0).trans rfl), run_load_i64 _ _ _ ((blk_cell hk 1).trans rfl), run_load_hs _ _ _ ((blk_cell hk 2).trans rfl)⟩)
  refine wpAnyH_take (i := 7) (oi := ({ dst := some 10, op := Op.build 46 #[(0, Operand.tmp 4), (1, Operand.tmp 6), (2, Operand.tmp 9)], type := 46, pos := "law.go:30", after := #[{ on := 1, ground := Ground.data }, { on := 3, ground := Ground.data }, { on := 6, ground := Ground.data }], guard := none } : Oper)) (v := .agg #[.int .i64 cnt, .int .i64 idx, .slice A3 m c3]) rfl (by kernel_rfl) (by kernel_rfl) (by kernel_rfl) (fun _ _ _ h => h) (Or.inl ⟨by rfl, fun w hSw => by go_simp⟩) hHeld ?_
  simp only [Act.put, List.setIfInBounds_toArray, List.set_cons_zero, List.set_cons_succ]
  refine wpAnyH_ready (rs := [8]) (by kernel_rfl) (by simp) ?_
  refine AllReadyH.cons (o := ({ dst := none, op := Op.store 46 (Operand.tmp 2) (Operand.tmp 10), type := 0, pos := "law.go:30", after := #[{ on := 7, ground := Ground.data }, { on := 6, ground := Ground.chain }, { on := 0, ground := Ground.phase }, { on := 1, ground := Ground.phase }, { on := 2, ground := Ground.phase }, { on := 3, ground := Ground.phase }, { on := 4, ground := Ground.phase }, { on := 5, ground := Ground.phase }, { on := 6, ground := Ground.phase }, { on := 7, ground := Ground.phase }], guard := none } : Oper)) rfl (fun K hK => ?_) AllReadyH.nil
  rw [if_pos (by rfl)]
  refine wp_store_row 46 (.tmp 2) (.tmp 10) rfl (w.heap.size + 1) #[.int .i64 cnt, .int .i64 idx, .slice A3 m c3] (by rfl) (by rfl) 46 #[.int .i64 0, .int .i64 0, .slice none 0 0] HZ3.out HU.out.2 rfl (by simp [Value.oneCell']) ?_
  refine hK.out _ _ (HS5.out) (fun hHeld => ?_)
  clear hK K
  try simp only [Act.put, List.setIfInBounds_toArray, List.set_cons_zero, List.set_cons_succ]
  refine wpAnyH_done (by kernel_rfl) ?_ _
  clear hbu hHeld
  go_wp2_with fail
  exact bodyPost_ret (results_cell_row rfl _ _ (w.heap.size + 1) 46 #[.int .i64 cnt, .int .i64 idx, .slice A3 m c3] (0, 0) _ rfl (setRow_heap _ _ _ _ _ _ HZ3.out) HU.out.1 rfl HU.out.2) rfl ⟨A3, c3, rfl, HC3.out.1, by have h := HC3.out.2; rw [← HM.out] at h; exact h, below_setRow (HB0.out.trans (Below.mono HB3.out HB0.out.size)) (by omega) _⟩
end Go.Proofs.YtlmcdkjobdcflaaDoor.Hand

/- A leaf's path leads to the list's root, if that is not doubled: the plain law. -/
namespace Go.Proofs.YtlmcdkjobdcflaaDoor.Hand
open Go Go.RowKit Go.Proofs.YtlmcdkjobdcflaaDoor.Plain
set_option linter.unusedVariables false
set_option linter.unusedSimpArgs false
set_option linter.unnecessarySimpa false
/-- The place beside. -/
def sib (i : Nat) : Nat := if i % 2 = 0 then i + 1 else i - 1
/-- A leaf's path, of so many levels. -/
def pathF : Nat → List (List Int) → Nat → List (List Int)
  | 0, _, _ => []
  | d + 1, xs, i => rdH xs (min (sib i) (xs.length - 1)) :: pathF d (aboveP xs) (i / 2)
theorem pathF_len : ∀ d xs i, (pathF d xs i).length = d
  | 0, _, _ => rfl
  | d + 1, xs, i => by rw [pathF, List.length_cons, pathF_len d]
theorem doubAt_above (xs : List (List Int)) : ∀ k, doubAt xs (k + 1) = (pairedP xs || doubAt (aboveP xs) k)
  | 0 => by simp [doubAt, lev]
  | k + 1 => by
    rw [doubAt, doubAt_above xs k, doubAt, lev_above, Bool.or_assoc]
theorem depth_above {n d : Nat} (h : IsDepth n (d + 1)) : IsDepth ((n + 1) / 2) d := by
  obtain ⟨h1, h2⟩ := h
  rw [Nat.pow_succ] at h1
  refine ⟨by omega, fun i hi => ?_⟩
  have := h2 (i + 1) (by omega)
  rw [Nat.pow_succ] at this
  omega
theorem paired_false {xs : List (List Int)} (h : pairedP xs = false) {k : Nat} (hk : 2 * k + 1 < xs.length) : rdH xs (2 * k + 1) ≠ rdH xs (2 * k) := by
  intro e
  have := paired_of hk (by rw [e]; simp)
  rw [h] at this
  cases this
theorem up_path : ∀ (d : Nat) (xs : List (List Int)) (i : Nat), IsDepth xs.length d → i < xs.length → doubAt xs d = false → upF (pathF d xs i) i xs.length (rdH xs i) = some (rdH (lev xs d) 0)
  | 0, xs, i, hd, hi, _ => by
    have := hd.1
    obtain rfl : i = 0 := by omega
    rfl
  | d + 1, xs, i, hd, hi, hq => by
    have h2 : 2 ≤ xs.length := by
      have := hd.2 0 (by omega)
      rw [Nat.pow_zero] at this
      omega
    rw [doubAt_above] at hq
    obtain ⟨hp, hq⟩ := Bool.or_eq_false_iff.1 hq
    have ih := up_path d (aboveP xs) (i / 2) (by rw [aboveP_len]; exact depth_above hd) (by rw [aboveP_len]; omega) hq
    rw [rdH_above (by omega), aboveP_len, lev_above] at ih
    rw [pathF, upF]
    by_cases ev : i % 2 = 0
    · obtain ⟨k, rfl⟩ : ∃ k, i = 2 * k := ⟨i / 2, by omega⟩
      rw [show 2 * k / 2 = k by omega] at ih ⊢
      have hs : sib (2 * k) = 2 * k + 1 := by unfold sib; rw [if_pos ev]
      rw [hs]
      have hc : ((2 * k % 2 == 0 && 2 * k == xs.length - 1) != (rdH xs (min (2 * k + 1) (xs.length - 1)) == rdH xs (2 * k))) = false := by
        have h1 : (2 * k % 2 == 0) = true := by simpa using ev
        by_cases la : 2 * k = xs.length - 1
        · have h3 : (2 * k == xs.length - 1) = true := by rw [beq_iff_eq]; exact la
          have h4 : (rdH xs (2 * k) == rdH xs (2 * k)) = true := by rw [beq_iff_eq]
          rw [show min (2 * k + 1) (xs.length - 1) = 2 * k by omega, h1, h3, h4]
          rfl
        · have h3 : (2 * k == xs.length - 1) = false := by rw [beq_eq_false_iff_ne]; exact la
          have h4 : (rdH xs (2 * k + 1) == rdH xs (2 * k)) = false := by rw [beq_eq_false_iff_ne]; exact paired_false hp (k := k) (by omega)
          rw [show min (2 * k + 1) (xs.length - 1) = 2 * k + 1 by omega, h1, h3, h4]
          rfl
      rw [hc, if_neg (by decide), if_pos ev]
      exact ih
    · obtain ⟨k, rfl⟩ : ∃ k, i = 2 * k + 1 := ⟨i / 2, by omega⟩
      rw [show (2 * k + 1) / 2 = k by omega] at ih ⊢
      have hs : min (sib (2 * k + 1)) (xs.length - 1) = 2 * k := by unfold sib; rw [if_neg ev]; omega
      rw [hs]
      have hn := paired_false hp (k := k) hi
      have hc : (((2 * k + 1) % 2 == 0 && 2 * k + 1 == xs.length - 1) != (rdH xs (2 * k) == rdH xs (2 * k + 1))) = false := by
        have h1 : ((2 * k + 1) % 2 == 0) = false := by simpa using ev
        have h3 : (rdH xs (2 * k) == rdH xs (2 * k + 1)) = false := by simpa using Ne.symm hn
        rw [h1, h3]
        rfl
      rw [hc, if_neg (by decide), if_neg ev]
      rw [aboveAt, show min (2 * k + 1) (xs.length - 1) = 2 * k + 1 by omega] at ih
      exact ih
/-- P9.2: the way up from any leaf of a list that is not doubled, by its path, ends in the list's root. -/
theorem up_root {xs : List (List Int)} {i d : Nat} (hd : IsDepth xs.length d) (hi : i < xs.length) (hq : doubP xs = false) : upF (pathF d xs i) i xs.length (rdH xs i) = some (rootP xs) := by
  rw [doubP_depth hd] at hq
  rw [up_path d xs i hd hi hq, rootP_of hd, rootAt_depth hd (by omega)]
theorem pathF_at : ∀ (d : Nat) (xs : List (List Int)) (i k : Nat), k < d → rdH (pathF d xs i) k = rdH (lev xs k) (min (sib (i / 2 ^ k)) (wideP xs.length k - 1))
  | d + 1, xs, i, 0, _ => by
    rw [pathF, Nat.pow_zero, Nat.div_one]
    rfl
  | d + 1, xs, i, k + 1, h => by
    have ih := pathF_at d (aboveP xs) (i / 2) k (by omega)
    have e1 : wideP (aboveP xs).length k = wideP xs.length (k + 1) := by rw [← lev_len, lev_above, lev_len]
    have e2 : i / 2 / 2 ^ k = i / 2 ^ (k + 1) := by rw [Nat.div_div_eq_div_mul, Nat.pow_succ, Nat.mul_comm]
    rw [lev_above, e1, e2] at ih
    rw [pathF, ← ih]
    rfl
theorem at_wide {n i : Nat} (h : i < n) : ∀ k, i / 2 ^ k < wideP n k
  | 0 => by simpa [wideP] using h
  | k + 1 => by
    have := at_wide h k
    rw [Nat.pow_succ, ← Nat.div_div_eq_div_mul]
    unfold wideP
    omega
/-- The place that the document takes. -/
theorem sib_min {a W : Nat} (h : a < W) : min (sib a) (W - 1) = if W ≤ sib a then a else sib a := by
  unfold sib
  split <;> split <;> omega
/-- The document's path: its nodes, level by level. -/
theorem pathF_node {d : Nat} {xs : List (List Int)} {i k : Nat} (hi : i < xs.length) (hk : k < d) : rdH (pathF d xs i) k = nodeP xs k (if wideP xs.length k ≤ sib (i / 2 ^ k) then i / 2 ^ k else sib (i / 2 ^ k)) := by
  have hw := at_wide hi k
  rw [pathF_at d xs i k hk, sib_min hw, nodeP_lev]
  split
  · exact hw
  · omega
theorem pathF_Hs : ∀ (d : Nat) (xs : List (List Int)) (i : Nat), Hs xs → Hs (pathF d xs i)
  | 0, xs, i, _ => fun p hp => by cases hp
  | d + 1, xs, i, h => fun p hp => by
    rw [pathF] at hp
    rcases List.mem_cons.1 hp with rfl | hp
    · exact h.any _
    · exact pathF_Hs d (aboveP xs) (i / 2) (aboveP_Hs xs) p hp
end Go.Proofs.YtlmcdkjobdcflaaDoor.Hand

/- What a made branch, and others, say: the plain laws. -/
namespace Go.Proofs.YtlmcdkjobdcflaaDoor.Hand
open Go Go.RowKit Go.Proofs.YtlmcdkjobdcflaaDoor.Plain
set_option linter.unusedVariables false
set_option linter.unusedSimpArgs false
set_option linter.unnecessarySimpa false
theorem bright_of {n i d m : Nat} (hd : IsDepth n d) (hi : i < n) (hn : n ≤ 65536) : brightP (n : Int) (i : Int) m = if m = d then 0 else 3 := by
  unfold brightP
  rw [if_neg (by omega), Int.toNat_natCast, IsDepth.unique (depthP_is n) hd]
  by_cases h : m = d
  · rw [if_neg (by simpa using h), if_pos h]
  · rw [if_pos h, if_neg h]
theorem upP_own {xs : List (List Int)} {n i d : Nat} (hx : n = xs.length) (hd : IsDepth n d) (hi : i < n) (hn : n ≤ 65536) (hq : doubP xs = false) : upP (n : Int) (i : Int) (pathF d xs i) (rdH xs i) = (rootP xs, 0) := by
  subst hx
  unfold upP
  rw [pathF_len, bright_of hd hi hn, if_pos rfl, if_neg (by decide), Int.toNat_natCast, Int.toNat_natCast, up_root hd hi hq]
theorem checkP_own {xs : List (List Int)} {n i d : Nat} (hx : n = xs.length) (hd : IsDepth n d) (hi : i < n) (hn : n ≤ 65536) (hq : doubP xs = false) : checkP (n : Int) (i : Int) (pathF d xs i) (rootP xs) (rdH xs i) = 0 := by
  unfold checkP
  rw [upP_own hx hd hi hn hq, if_pos rfl, if_pos (by simp)]
/-- A path of another length is none's. -/
theorem upP_len {ys : List (List Int)} {n i d : Nat} (hd : IsDepth n d) (hi : i < n) (hn : n ≤ 65536) (hy : ys.length ≠ d) (leaf : List Int) : upP (n : Int) (i : Int) ys leaf = (z32h, 3) := by
  unfold upP
  rw [bright_of hd hi hn, if_neg hy, if_pos (by decide)]
theorem checkP_len {ys : List (List Int)} {n i d : Nat} (hd : IsDepth n d) (hi : i < n) (hn : n ≤ 65536) (hy : ys.length ≠ d) (root leaf : List Int) : checkP (n : Int) (i : Int) ys root leaf = 3 := by
  unfold checkP
  rw [upP_len hd hi hn hy, if_neg (by decide)]
/-- One leaf more, the last once more: no branch leads from it. -/
theorem checkP_twice {xs : List (List Int)} {n d : Nat} (hx : xs.length = n) (ho : n % 2 = 1) (hn : n < 65536) (hd : IsDepth (n + 1) d) (root : List Int) : checkP ((n + 1 : Nat) : Int) (n : Int) (pathF d (xs ++ [rdH xs (n - 1)]) n) root (rdH (xs ++ [rdH xs (n - 1)]) n) = 15 := by
  have h1 : rdH (xs ++ [rdH xs (n - 1)]) n = rdH xs (n - 1) := by
    subst hx
    unfold rdH
    simp
  have h2 : rdH (xs ++ [rdH xs (n - 1)]) (n - 1) = rdH xs (n - 1) := by
    rw [rdH_eq (by rw [List.length_append, List.length_singleton]; omega), rdH_eq (show n - 1 < xs.length by omega), List.getElem_append_left (by omega)]
  obtain ⟨d, rfl⟩ : ∃ e, d = e + 1 := by
    cases d with
    | zero =>
      have := hd.1
      omega
    | succ e => exact ⟨e, rfl⟩
  have hb := bright_of (i := n) (m := d + 1) hd (by omega) (by omega)
  rw [if_pos rfl] at hb
  have hu : upP ((n + 1 : Nat) : Int) (n : Int) (pathF (d + 1) (xs ++ [rdH xs (n - 1)]) n) (rdH (xs ++ [rdH xs (n - 1)]) n) = (z32h, 15) := by
    unfold upP
    rw [pathF_len, hb, if_neg (by decide), Int.toNat_natCast, Int.toNat_natCast, pathF, upF, h1]
    have hs : min (sib n) ((xs ++ [rdH xs (n - 1)]).length - 1) = n - 1 := by
      unfold sib
      rw [if_neg (by omega), List.length_append, List.length_singleton, hx]
      omega
    rw [hs, h2, if_pos (by simp [ho])]
  unfold checkP
  rw [hu, if_neg (by decide)]
end Go.Proofs.YtlmcdkjobdcflaaDoor.Hand

/- A leaf's branch: walked. -/
namespace Go.Proofs.YtlmcdkjobdcflaaDoor.Hand
open Go Go.RowKit Go.Proofs.YtlmcdkjobdcflaaDoor.Plain Go.Proofs.YtlmcdkjobdcflaaDoor.PAll Go.Proofs.YtlmcdkjobdcflaaDoorW.PrintWords Go.Proofs.YtlmcdkjobdcflaaDoorW.PrintLast Go.Proofs.YtlmcdkjobdcflaaDoorW.PrintMore
set_option linter.unusedVariables false
set_option linter.unusedSimpArgs false
set_option maxRecDepth 100000
attribute [local go_sem ↓] Go.wp_at_zero Go.wp_at_succ
theorem run_store_hs (w : World) (a : Addr) (A : Option Addr) (m c : Nat) (v0 : Value) (h : w.cell? a = some v0) (hf : w.frozen? a = false) : (storeVar 22 a (.slice A m c)).run Tryd.prog w = .ok () (w.setCell a (.slice A m c)) := by
  go_simp
attribute [-go_sem] loadVar storeVar Instr.buildSlice
theorem infoB9 : (Tryd.prog.info? 41).map (fun i => (i.zero, i.size)) = some (some (.agg #[.int .i64 0, .int .i64 0, .slice none 0 0]), 3) := by kernel_rfl
theorem built_b0 : Tryd.prog.built 41 [] = some #[.int .i64 0, .int .i64 0, .slice none 0 0] := by kernel_rfl
theorem built_b2 (n i : Int) : Tryd.prog.built 41 [(0, .int .i64 n), (1, .int .i64 i)] = some #[.int .i64 n, .int .i64 i, .slice none 0 0] := by kernel_rfl
theorem nat_sib (x : Nat) : x ^^^ 1 = sib x := by
  have h1 : (x ^^^ 1) / 2 = x / 2 := by rw [Nat.xor_div_two]; simp
  have h2 : (x ^^^ 1) % 2 = (x + 1) % 2 := by
    have h := Nat.xor_mod_two_pow (a := x) (b := 1) (n := 1)
    rw [Nat.pow_one] at h
    rw [h]
    rcases Nat.mod_two_eq_zero_or_one x with e | e
    · rw [e, show (0 ^^^ 1 % 2 : Nat) = 1 by decide]
      omega
    · rw [e, show (1 ^^^ 1 % 2 : Nat) = 0 by decide]
      omega
  unfold sib
  split <;> omega
theorem i64_sib (x : Nat) (hx : x < 4611686018427387904) : bits .xor .i64 (x : Int) 1 = ((sib x : Nat) : Int) := by
  show IntKind.i64.wrap ((BitVec.ofInt 64 (x : Int) ^^^ BitVec.ofInt 64 1).toNat : Int) = _
  have h1 : (BitVec.ofInt 64 1).toNat = 1 := by decide
  have h2 : (BitVec.ofInt 64 (x : Int)).toNat = x := by
    rw [BitVec.ofInt_natCast, BitVec.toNat_ofNat]; exact Nat.mod_eq_of_lt (by omega)
  have h3 : sib x ≤ x + 1 := by unfold sib; split <;> omega
  rw [BitVec.toNat_xor, h1, h2, nat_sib, IntKind.wrap_i64]
  omega
theorem C_moved {w w1 : World} {A : Option Addr} {xs : List (List Int)} {n : Nat} (hn : xs.length = n) (hC : Kd.C kH w A n xs) (h32 : Hs xs) (h : ∀ b o, A = some ⟨b, o, none⟩ → w1.heap[b]? = w.heap[b]?) : Kd.C kH w1 A n xs := by
  subst hn
  by_cases h0 : xs.length = 0
  · exact ⟨rfl, Kd.C_max hC, fun hp => absurd hp (by omega)⟩
  · obtain ⟨b, o, rfl, hb, hrg⟩ := C_hash hC (by omega)
    have h2 := h b o rfl
    refine C_of_ranges (fun i hi j v hj => ?_) (fun p hp => (h32 p hp).1) (Kd.C_max hC)
    exact (World.cell?_of_block h2).trans ((hrg i hi).1 j v hj)
theorem above_new {xs : List (List Int)} {l m : Nat} (A : Option Addr) (c : Nat) (u : World) (hl : xs.length = l) (hm : (l + 1) / 2 = m) (hH : Hs xs) (h5 : l ≤ 100000) (hr : Kd.C kH u A l xs) (hc : l ≤ c) (hK : KT u) :
    Calls Tryd.prog 23 #[.slice A l c] u fun e w' => ∃ A2 c2, e = .returned (.slice A2 m c2) ∧ m ≤ c2 ∧ Kd.C kH w' A2 m (aboveP xs) ∧ (∀ b o, A2 = some ⟨b, o, none⟩ → u.heap.size ≤ b) ∧ Below u.heap.size u w' := by
  refine (above_calls A l c xs u hl.symm hr hc h5 hH hK).mono ?_
  rintro e w' ⟨v, rfl, hv, hb⟩
  obtain ⟨A2, c2, rfl, h1, h2⟩ := Kd.R_reads hv
  have h3 : (aboveP xs).length = m := by rw [aboveP_len, hl, hm]
  rw [h3] at h1 h2 ⊢
  exact ⟨A2, c2, rfl, h1, h2, fun b o e => by subst e; exact Kd.R_base hv b rfl, hb⟩
def lenV9 : Value → Nat
  | .slice _ n _ => n
  | _ => 0
end Go.Proofs.YtlmcdkjobdcflaaDoor.Hand

/- The branches' awake: walked. -/
namespace Go.Proofs.YtlmcdkjobdcflaaDoor.Hand
open Go Go.RowKit Go.Proofs.YtlmcdkjobdcflaaDoor.Plain Go.Proofs.YtlmcdkjobdcflaaDoor.PAll Go.Proofs.YtlmcdkjobdcflaaDoorW.PrintWords Go.Proofs.YtlmcdkjobdcflaaDoorW.PrintLast Go.Proofs.YtlmcdkjobdcflaaDoorW.PrintMore
set_option linter.unusedVariables false
set_option linter.unusedSimpArgs false
set_option maxRecDepth 100000
attribute [local go_sem ↓] Go.wp_at_zero Go.wp_at_succ
attribute [-go_sem] loadVar storeVar Instr.buildSlice
theorem doub3 : doubP [smallH 1, smallH 2, smallH 3] = false := by decide +kernel
theorem depth3 : IsDepth 3 2 := ⟨by decide, fun i hi => by
  obtain rfl | rfl : i = 0 ∨ i = 1 := by omega
  · decide
  · decide⟩
theorem run_hash3 (x y z : Int) (W : World) : (Instr.buildSlice 22 3 #[(0, .agg (nums .u8 (smallH x)).toArray), (1, .agg (nums .u8 (smallH y)).toArray), (2, .agg (nums .u8 (smallH z)).toArray)]).run Tryd.prog W = .ok (.slice (some ⟨W.heap.size, 0, none⟩) 3 3) (W.alloc (.cells (hcs [smallH x, smallH y, smallH z]).toArray 25)) := by
  kernel_rfl
end Go.Proofs.YtlmcdkjobdcflaaDoor.Hand

