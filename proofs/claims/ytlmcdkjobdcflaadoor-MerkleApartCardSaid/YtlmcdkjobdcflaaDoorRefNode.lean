/- The document's pair, and its node of a level: walked. -/
import Derived.Test.YtlmcdkjobdcflaaDoorProg
import Derived.Below
import Derived.Deep.Draws
import Derived.Deep.AppendLies
import Derived.Maps.AppendAt
import Derived.OwnWalk
import Derived.Laws.BytesArg
import Derived.Laws.MakeOwn
import Derived.Laws.OwnMore
import Derived.Deep.OwnRows
import Derived.Tactics
import Derived.Lib.ConvBytes
import Derived.Laws.Slices
import Derived.WalkKit
import Derived.KernelRfl
import Derived.RowKit3
import Derived.Deep.LoopGhost
import Derived.Deep.QuietTactic
import Derived.BigQuiet
import Derived.WideLaws
import Derived.Deep.DeepCutAuto
import Derived.Deep.CutBlock
import Derived.Deep.RegionHeld3
import Derived.Laws.Rows
import Derived.Lib.AppendStr
import Derived.ArgAppend
import Derived.Laws.IdiomCopy
import Derived.OrdersHeld
import Derived.Laws.BitsLemmas
import Derived.RowKit
import Derived.StillTailTactics
import Derived.Test.YtlmcdkjobdcflaaDoorWWords
import Derived.Test.YtlmcdkjobdcflaaDoorWLast
import Derived.Test.YtlmcdkjobdcflaaDoorWMore
import Derived.Lib.Hide
import Derived.Outline
import Derived.Deep.MidRow
import Derived.Deep.WholeRow
import Derived.Deep.RegionHeld3
import Derived.Deep.DrawnRows
import Derived.Test.YtlmcdkjobdcflaaDoorDepth
import Derived.Test.YtlmcdkjobdcflaaDoorAbove
namespace Go.Proofs.YtlmcdkjobdcflaaDoor.Hand
open Go Go.RowKit Go.Proofs.YtlmcdkjobdcflaaDoor.Plain Go.Proofs.YtlmcdkjobdcflaaDoor.PAll Go.Proofs.YtlmcdkjobdcflaaDoorW.PrintWords Go.Proofs.YtlmcdkjobdcflaaDoorW.PrintLast Go.Proofs.YtlmcdkjobdcflaaDoorW.PrintMore
set_option linter.unusedVariables false
set_option linter.unusedSimpArgs false
set_option maxRecDepth 100000
attribute [local go_sem ↓] Go.wp_at_zero Go.wp_at_succ
attribute [-go_sem] loadVar storeVar Instr.buildSlice
theorem str_append (a b : List Int) : strOfNums (a ++ b) = strOfNums a ++ strOfNums b := by
  apply ByteArray.ext
  simp [strOfNums, ByteArray.data_append]
theorem below_of_drew {w w1 : World} (h : Below w.drew.heap.size w.drew w1) : Below w.heap.size w w1 := (below_drew (Below.refl _ w)).trans h
theorem setRow_alloc_end (w : World) (c c' : Array Value) (t : TypeId) : (w.alloc (.cells c t)).setRow w.heap.size c' = w.alloc (.cells c' t) := World.setRow_alloc_new w c c' t
set_option maxHeartbeats 2000000 in
theorem rpair_calls (p q : List Int) (w : World) (hp : p.length = 32) (hq : q.length = 32) (hpb : ∀ x ∈ p, 0 ≤ x ∧ x < 256) (hqb : ∀ x ∈ q, 0 ≤ x ∧ x < 256) :
    Calls Tryd.prog 24 #[.agg (nums .u8 p).toArray, .agg (nums .u8 q).toArray] w fun e w' => e = .returned (.agg (nums .u8 (twiceP (p ++ q))).toArray) ∧ Below w.heap.size w w' := by
  have HZ := (zero_of_info info32b).1
  obtain ⟨Z, hZ⟩ : ∃ C, nums .u8 (List.replicate 32 0) = C := ⟨_, rfl⟩
  have hZl : Z.length = 32 := by rw [← hZ]; rfl
  rw [hZ] at HZ
  have HT := Lib.hid (fun u => rtwice_calls (p ++ q) u (by simp [hp, hq]) (by
    intro x hx
    rcases List.mem_append.1 hx with h | h
    · exact hpb x h
    · exact hqb x h))
  have hadd : strOfNums p ++ strOfNums q = strOfNums (p ++ q) := (str_append p q).symm
  have hs1 := strOfNums_size p
  have hs2 := strOfNums_size q
  obtain ⟨W, hW⟩ : ∃ W, ((w.alloc (.cells (nums .u8 p).toArray 24)).alloc (.cells (nums .u8 q).toArray 24)).alloc (.cells Z.toArray 24) = W := ⟨_, rfl⟩
  have hWs : W.heap.size = w.heap.size + 3 := by rw [← hW]; simp
  have hWb : Below w.heap.size w W := by rw [← hW]; exact below_alloc (below_alloc (below_alloc (Below.refl _ _) _) _) _
  have hk0 : W.heap[w.heap.size]? = some (.cells (nums .u8 p).toArray 24 (0, 0)) := by rw [← hW]; exact blk_alloc (blk_alloc (heap_alloc_new w _) _) _
  have hk1 : W.heap[w.heap.size + 1]? = some (.cells (nums .u8 q).toArray 24 (0, 0)) := by
    rw [← hW]
    refine blk_alloc ?_ _
    have h := heap_alloc_new (w.alloc (.cells (nums .u8 p).toArray 24)) (.cells (nums .u8 q).toArray 24)
    rwa [World.size_alloc] at h
  have hk2 : W.heap[w.heap.size + 1 + 1]? = some (.cells Z.toArray 24 (0, 0)) := by
    rw [← hW]
    have h := heap_alloc_new ((w.alloc (.cells (nums .u8 p).toArray 24)).alloc (.cells (nums .u8 q).toArray 24)) (.cells Z.toArray 24)
    simpa using h
  have HSS := Lib.hid (show ∀ u : World, Below (w.heap.size + 2) W u → (convert 33 9 (.slice (some ⟨w.heap.size, 0, none⟩) 32 32)).run Tryd.prog u = .ok (.string (strOfNums p)) u ∧ (convert 33 9 (.slice (some ⟨w.heap.size + 1, 0, none⟩) 32 32)).run Tryd.prog u = .ok (.string (strOfNums q)) u from fun u hu => by
    constructor
    · have hC := C_of_block (pre := []) (post := []) (k := .u8) (ys := p) (o := 0) (t := 24) (fr := (0, 0)) (w := u) (b := w.heap.size) (by rw [List.nil_append, List.append_nil]; exact (hu.block _ (by omega)).trans hk0) rfl (by rw [hp]; decide)
      have h := Kd.C_string (P := Tryd.prog) (c := 32) Tryd.underlying33 Tryd.underlying5 Tryd.underlying9 hC
      rwa [hp] at h
    · have hC := C_of_block (pre := []) (post := []) (k := .u8) (ys := q) (o := 0) (t := 24) (fr := (0, 0)) (w := u) (b := w.heap.size + 1) (by rw [List.nil_append, List.append_nil]; exact (hu.block _ (by omega)).trans hk1) rfl (by rw [hq]; decide)
      have h := Kd.C_string (P := Tryd.prog) (c := 32) Tryd.underlying33 Tryd.underlying5 Tryd.underlying9 hC
      rwa [hq] at h)
  obtain ⟨P, hP⟩ : ∃ P, (nums .u8 p).toArray = P := ⟨_, rfl⟩
  obtain ⟨Q, hQ⟩ : ∃ P, (nums .u8 q).toArray = P := ⟨_, rfl⟩
  have hRl : (nums .u8 (twiceP (p ++ q))).length = 32 := by rw [nums_len]; exact twiceP_len _
  have hR1 := nums_one .u8 (twiceP (p ++ q))
  obtain ⟨R, hR⟩ : ∃ P, nums .u8 (twiceP (p ++ q)) = P := ⟨_, rfl⟩
  rw [hR] at hRl hR1 HT
  rw [hP, hQ] at hW
  rw [hP, hQ, hR]
  obtain ⟨T1, hT1⟩ : ∃ T, strOfNums p = T := ⟨_, rfl⟩
  obtain ⟨T2, hT2⟩ : ∃ T, strOfNums q = T := ⟨_, rfl⟩
  obtain ⟨T3, hT3⟩ : ∃ T, strOfNums (p ++ q) = T := ⟨_, rfl⟩
  rw [hT1] at HSS hadd hs1
  rw [hT2] at HSS hadd hs2
  rw [hT3] at HT hadd
  have hle : (9223372036854775807 < T1.size + T2.size) = False := eq_false (by rw [hs1, hs2]; omega)
  have hmax : T1.size + T2.size ≤ 9223372036854775807 := by rw [hs1, hs2]; omega
  have HTH := Lib.hid (show ∀ u : World, Below W.heap.size W u → u.there (w.heap.size + 1 + 1) 0 R.toArray.size from fun u hu => there_blk ((hu.block _ (by omega)).trans hk2) (by simp [hZl, hRl]))
  have HB0 := Lib.hid (below_drew (Below.refl (w.heap.size + 2) W))
  have HFIN := Lib.hid (And.intro hWs (And.intro hWb (And.intro hk2 (And.intro hZl hRl))))
  have hinf : (Tryd.prog.info? 24).map (·.size) = some R.length := by rw [hRl]; exact (zero_of_info info32b).2
  have hs := fun W g => slice_all32 W g
  have HU := Lib.hid Tryd.underlying24
  clear hWs hWb hk0 hk1 hk2 hZl hZ hp hq hpb hqb hP hQ hR hT1 hT2 hT3 hs1 hs2
  go_enter Tryd.func24, Tryd.ntmps24
  go_wp2_with fail
  go_region_held3 (fun u => (convert 33 9 (.slice (some ⟨w.heap.size, 0, none⟩) 32 32)).run Tryd.prog u = .ok (.string T1) u ∧ (convert 33 9 (.slice (some ⟨w.heap.size + 1, 0, none⟩) 32 32)).run Tryd.prog u = .ok (.string T2) u) (first | exact HSS.out _ HB5.out | exact HSS.out _ HB3.out | exact HSS.out _ HB0.out)
    (first
      | (go_at_call 55; (with_reducible refine (HT.out _).mono ?_); rintro e w3 ⟨rfl, hb3'⟩; have hb3 := below_of_drew hb3'; have hth := HTH.out w3 hb3; have HB3 := Lib.hid (Below.mono (B' := w.heap.size + 2) hb3 (by have := HFIN.out.1; show w.heap.size + 2 ≤ W.heap.size; omega)); have HB4 := Lib.hid hb3; have HB5 := Lib.hid (below_setCells' (b := w.heap.size + 1 + 1) (B := w.heap.size + 2) (by omega) R 0 w3 HB3.out); clear hb3 hb3'))
  go_wp2
  obtain ⟨hWs, hWb, hk2, hZl, hRl⟩ := HFIN.out
  have hk3 := heap_setCells_all ((HB4.out.block (w.heap.size + 1 + 1) (by omega)).trans hk2) (hZl.trans hRl.symm)
  exact bodyPost_ret (results_cell_row rfl _ _ (w.heap.size + 1 + 1) 24 R.toArray (0, 0) _ rfl hk3 HU.out rfl (by simpa using hinf)) rfl ⟨rfl, hWb.trans (Below.mono HB5.out (by omega))⟩
set_option maxHeartbeats 4000000 in
theorem rnode_calls (A : Option Addr) (n c : Nat) (xs : List (List Int)) (hn : n = xs.length) (hc : n ≤ c) (hl : n ≤ 100000) (hH : Hs xs) : ∀ (lvl at_ : Nat) (w : World), Kd.C kH w A n xs → at_ < wideP n lvl → lvl ≤ 1000 →
    Calls Tryd.prog 53 #[.slice A n c, .int .i64 (lvl : Int), .int .i64 (at_ : Int)] w fun e w' => e = .returned (.agg (nums .u8 (nodeP xs lvl at_)).toArray) ∧ Below w.heap.size w w'
  | 0, at_, w, hr, hat, hlv => by
    have HZ := (zero_of_info info32b).1
    obtain ⟨Z, hZ⟩ : ∃ C, (nums .u8 (List.replicate 32 0)).toArray = C := ⟨_, rfl⟩
    rw [hZ] at HZ
    have hat2 : at_ < n := hat
    obtain ⟨b, o, rfl, hbl, hrg⟩ := C_hash (by rw [← hn]; exact hr) (by omega)
    obtain ⟨hr0, hs0⟩ := hrg at_ (by omega)
    rw [show nodeP xs 0 at_ = rdH xs at_ from rfl]
    have hr1 : (w.alloc (.cells Z 24)).rangeAt b (o + at_ * 32) (nums .u8 (rdH xs at_)) := World.rangeAt_alloc hr0 _
    have hone := nums_one .u8 (rdH xs at_)
    have hPl : (nums .u8 (rdH xs at_)).length = 32 := by rw [nums_len]; exact hs0
    obtain ⟨P, hP⟩ : ∃ P, nums .u8 (rdH xs at_) = P := ⟨_, rfl⟩
    rw [hP] at hr1 hone hPl ⊢
    have hZ32 : Z.size = 32 := by rw [← hZ]; rfl
    have HF := Lib.hid (show (Tryd.prog.info? 24).map (·.size) = some P.length ∧ (Tryd.prog.info? 24).map (·.size) = some P.toArray.size ∧ Z.size = P.toArray.size ∧ P.toArray.all (·.oneCell') = true from
      ⟨by rw [hPl]; exact (zero_of_info info32b).2, by rw [List.size_toArray, hPl]; exact (zero_of_info info32b).2, hZ32.trans (by rw [List.size_toArray, hPl]), all_oneCell_toArray hone⟩)
    have HK := Lib.hid (heap_alloc_new w (.cells Z 24))
    have HU := Lib.hid Tryd.underlying24
    have HR1 := Lib.hid hr1
    have g1 : (at_ : Int) < (n : Int) := by omega
    clear hr hat hrg hr0 hs0 hr1 hone hPl hP hZ hZ32 hH hn hlv hat2
    go_enter Tryd.func53, Tryd.ntmps53
    go_wp2_with (first
      | ((with_reducible show wpList _ _ _ (Oper.mk _ (Op.load _ (.tmp 12)) _ _ _ _ :: _) _ _); (go_loud (refine wpList_load_mid rfl 24 (.tmp 12) rfl b (o + at_ * 32) rfl P _ HR1.out HU.out rfl HF.out.1 ?_)))
      | ((with_reducible show wpList _ _ _ (Oper.mk _ (Op.store _ _ _) _ _ _ _ :: _) _ _); (go_loud (refine wpList_store_row rfl 24 (.tmp 6) (.tmp 13) rfl w.heap.size P.toArray rfl rfl 24 Z HK.out HF.out.2.1 HF.out.2.2.1 HF.out.2.2.2 ?_))))
    exact bodyPost_ret (results_cell_row rfl _ _ w.heap.size 24 P.toArray (0, 0) _ rfl (setRow_heap _ _ _ _ _ _ HK.out) HU.out rfl HF.out.2.1) rfl ⟨rfl, below_setRow (below_alloc (Below.refl _ _) _) (Nat.le_refl _) _⟩
  | lvl + 1, at_, w, hr, hat, hlv => by
    have ih := fun (a : Nat) (u : World) (hu : Kd.C kH u A n xs) (ha : a < wideP n lvl) => rnode_calls A n c xs hn hc hl hH lvl a u hu ha (by omega)
    have HZ := (zero_of_info info32b).1
    obtain ⟨Z, hZ⟩ : ∃ C, nums .u8 (List.replicate 32 0) = C := ⟨_, rfl⟩
    have hZl : Z.length = 32 := by rw [← hZ]; rfl
    rw [hZ] at HZ
    have hw1 : at_ < (wideP n lvl + 1) / 2 := hat
    have hwle := wideP_le n lvl
    have hnode : nodeP xs (lvl + 1) at_ = if 2 * at_ + 1 ≥ wideP n lvl then twiceP (nodeP xs lvl (2 * at_) ++ nodeP xs lvl (2 * at_)) else twiceP (nodeP xs lvl (2 * at_) ++ nodeP xs lvl (2 * at_ + 1)) := by rw [nodeP, ← hn]
    have hhash : ∀ a, a < wideP n lvl → (nodeP xs lvl a).length = 32 ∧ ∀ x ∈ nodeP xs lvl a, 0 ≤ x ∧ x < 256 := fun a ha => by
      rw [nodeP_lev xs lvl a (by rw [← hn]; exact ha)]
      exact (lev_Hs hH lvl).any a
    obtain ⟨hp32, hpb⟩ := hhash (2 * at_) (by omega)
    have ih1 := ih (2 * at_) (w.alloc (.cells Z.toArray 24)) (Kd.C_alloc hr _) (by omega)
    rw [show ((2 * at_ : Nat) : Int) = 2 * (at_ : Int) by simp] at ih1
    obtain ⟨p, hpe⟩ : ∃ p, nodeP xs lvl (2 * at_) = p := ⟨_, rfl⟩
    rw [hpe] at hp32 hpb ih1 hnode
    have hPl : (nums .u8 p).length = 32 := by rw [nums_len]; exact hp32
    have hP1 := nums_one .u8 p
    have HPP := Lib.hid (fun u => rpair_calls p p u hp32 hp32 hpb hpb)
    have hR : (nodeP xs (lvl + 1) at_).length = 32 := by
      rw [hnode]
      split <;> exact twiceP_len _
    have hRl : (nums .u8 (nodeP xs (lvl + 1) at_)).length = 32 := by rw [nums_len]; exact hR
    have hR1 := nums_one .u8 (nodeP xs (lvl + 1) at_)
    have HF := Lib.hid (show ∀ L : List Value, L.length = 32 → (∀ v ∈ L, v.oneCell' = true) → (Tryd.prog.info? 24).map (·.size) = some L.toArray.size ∧ Z.toArray.size = L.toArray.size ∧ L.toArray.all (·.oneCell') = true from fun L hL h1 =>
      ⟨by rw [List.size_toArray, hL]; exact (zero_of_info info32b).2, by rw [List.size_toArray, List.size_toArray, hZl, hL], all_oneCell_toArray h1⟩)
    have HPF := Lib.hid (HF.out _ hPl hP1)
    have HRF := Lib.hid (HF.out _ hRl hR1)
    have HRL := Lib.hid (And.intro hRl hR1)
    have HPL := Lib.hid (And.intro hPl (And.intro hp32 hpb))
    obtain ⟨P, hP⟩ : ∃ P, nums .u8 p = P := ⟨_, rfl⟩
    obtain ⟨R, hRR⟩ : ∃ P, nums .u8 (nodeP xs (lvl + 1) at_) = P := ⟨_, rfl⟩
    rw [hP] at ih1 HPF HPL HPP
    have HPL2 := Lib.hid hP
    rw [hRR] at HRF HRL ⊢
    have HIH1 := Lib.hid ih1
    have HRR := Lib.hid (And.intro hRR hnode)
    have HU := Lib.hid Tryd.underlying24
    have HKR := Lib.hid (heap_alloc_new w (.cells Z.toArray 24))
    have HB1 := Lib.hid (below_alloc (Below.refl w.heap.size w) (.cells Z.toArray 24))
    have g0 : ((lvl : Int) + 1 == 0) = false := beq_eq_false_iff_ne.2 (by omega)
    have HIH := Lib.hid ih
    have HHS := Lib.hid hhash
    have HR0 := Lib.hid hr
    have HNN := Lib.hid hn
    clear hn ih1 ih hR hRl hR1 hPl hP1 hp32 hpb hpe hP hRR hnode hhash hr hat hZ hH
    go_enter Tryd.func53, Tryd.ntmps53
    go_wp2_with fail
    (with_reducible refine HIH1.out.mono ?_)
    rintro e w2 ⟨rfl, hb2⟩
    have HK2 := Lib.hid ((hb2.block _ (blk_lt HKR.out)).trans HKR.out)
    have HB2 := Lib.hid (HB1.out.trans (Below.mono hb2 HB1.out.size))
    clear hb2 HIH1
    go_wp2_with ((with_reducible show wpList _ _ _ (Oper.mk _ (Op.store _ _ _) _ _ _ _ :: _) _ _); (go_loud (refine wpl_store_new rfl 24 (.tmp 7) (.tmp 19) rfl Z.toArray P.toArray rfl rfl HPF.out.1 HPF.out.2.1 HPF.out.2.2 ?_)))
    have HK3 := Lib.hid (blk_alloc HK2.out (.cells P.toArray 24))
    have HB3 := Lib.hid (below_alloc HB2.out (.cells P.toArray 24))
    have HN3 := Lib.hid (heap_alloc_new w2 (.cells P.toArray 24))
    have HLT := Lib.hid (blk_lt HK2.out)
    (with_reducible refine (rwide_calls n lvl _ (by omega) (by omega)).mono ?_)
    rintro e w4 ⟨rfl, ⟨m, rfl⟩⟩
    have HK4 := Lib.hid (blk_drewN HK3.out m)
    have HN4 := Lib.hid (blk_drewN HN3.out m)
    have HB4 := Lib.hid (pw_below_drewN HB3.out m)
    have HZ4 := Lib.hid (show ((w2.alloc (.cells P.toArray 24)).drewN m).heap.size = w2.heap.size + 1 by show (w2.alloc (.cells P.toArray 24)).heap.size = w2.heap.size + 1; simp)
    obtain ⟨W4, hW4⟩ : ∃ W, (w2.alloc (.cells P.toArray 24)).drewN m = W := ⟨_, rfl⟩
    rw [hW4] at HK4 HN4 HB4 HZ4 ⊢
    clear HK2 HK3 HB2 HB3 HN3 hW4
    obtain ⟨V, hV⟩ : ∃ V, wideP n lvl = V := ⟨_, rfl⟩
    rw [hV] at hw1 hwle HHS HIH HRR ⊢
    by_cases hg : V ≤ 2 * at_ + 1
    · have g2 : decide ((V : Int) ≤ 2 * (at_ : Int) + 1) = true := decide_eq_true (by omega)
      have hRe : nums .u8 (twiceP (p ++ p)) = R := by rw [← HRR.out.1, HRR.out.2, if_pos hg]
      rw [hRe] at HPP
      clear hRe
      go_wp2_with (first
        | ((with_reducible show wpList _ _ _ (Oper.mk _ (Op.load _ (.tmp 7)) _ _ _ _ :: _) _ _); (go_loud (refine wpList_load_row rfl 24 (.tmp 7) rfl w2.heap.size rfl 24 P.toArray (0, 0) _ HN4.out HU.out rfl HPF.out.1 ?_)))
        | (go_at_call 24; (with_reducible refine (HPP.out _).mono ?_); rintro e w6 ⟨rfl, hb6⟩; have HB6 := Lib.hid (HB4.out.trans (Below.mono hb6 HB4.out.size)); have HK6 := Lib.hid ((hb6.block _ (blk_lt HK4.out)).trans HK4.out); clear hb6)
        | ((with_reducible show wpList _ _ _ (Oper.mk _ (Op.store _ _ _) _ _ _ _ :: _) _ _); (go_loud (refine wpList_store_row rfl 24 (.tmp 6) (.tmp 31) rfl w.heap.size R.toArray rfl rfl 24 Z.toArray HK6.out HRF.out.1 HRF.out.2.1 HRF.out.2.2 ?_))))
      exact bodyPost_ret (results_cell_row rfl _ _ w.heap.size 24 R.toArray (0, 0) _ rfl (setRow_heap _ _ _ _ _ _ HK6.out) HU.out rfl HRF.out.1) rfl ⟨rfl, below_setRow HB6.out (Nat.le_refl _) _⟩
    · have g2 : decide ((V : Int) ≤ 2 * (at_ : Int) + 1) = false := decide_eq_false (by omega)
      obtain ⟨hq32, hqb⟩ := HHS.out (2 * at_ + 1) (by omega)
      have ih2 := HIH.out (2 * at_ + 1) W4.drew (Kd.C_drew (Kd.C_below HR0.out HB4.out)) (by omega)
      rw [show ((2 * at_ + 1 : Nat) : Int) = 2 * (at_ : Int) + 1 by simp] at ih2
      have hRe : nums .u8 (twiceP (p ++ nodeP xs lvl (2 * at_ + 1))) = R := by rw [← HRR.out.1, HRR.out.2, if_neg (by omega)]
      have HPQ := Lib.hid (fun u => rpair_calls p (nodeP xs lvl (2 * at_ + 1)) u HPL.out.2.1 hq32 HPL.out.2.2 hqb)
      rw [hRe, HPL2.out] at HPQ
      obtain ⟨Q, hQ⟩ : ∃ Q, nums .u8 (nodeP xs lvl (2 * at_ + 1)) = Q := ⟨_, rfl⟩
      rw [hQ] at HPQ ih2
      have HIH2 := Lib.hid ih2
      have hlt := HLT.out
      have HSR := Lib.hid (show ∀ u : World, Below W4.heap.size W4 u → u.rangeAt w2.heap.size 0 P from fun u hu j v hj => by
        rw [Nat.zero_add, blk_cell ((hu.block _ (blk_lt HN4.out)).trans HN4.out), List.getElem?_toArray]
        exact hj)
      have HTH := Lib.hid (show ∀ u : World, Below W4.heap.size W4 u → u.there w.heap.size 0 R.toArray.size from fun u hu => there_blk ((hu.block _ (blk_lt HK4.out)).trans HK4.out) (by rw [← HRF.out.2.1]))
      have hu := Tryd.underlying24
      have hi1 : (Tryd.prog.info? 24).map (·.size) = some P.length := by rw [HPL.out.1]; exact (zero_of_info info32b).2
      have hi2 : (Tryd.prog.info? 24).map (·.size) = some R.length := by rw [HRL.out.1]; exact (zero_of_info info32b).2
      have hR1 := HRL.out.2
      have hv0 : IntKind.i64.wrap (2 * (at_ : Int)) = 2 * (at_ : Int) := IntWalk.i64_in _ (by omega)
      have hv1 : IntKind.i64.wrap (2 * (at_ : Int) + 1) = 2 * (at_ : Int) + 1 := IntWalk.i64_in _ (by omega)
      have hv2 : IntKind.i64.wrap (lvl : Int) = (lvl : Int) := IntWalk.i64_in _ (by omega)
      have HB40 := Lib.hid (below_drew (Below.refl W4.heap.size W4))
      clear ih2 hQ hRe hq32 hqb hlt
      go_wp2_with fail
      go_region_held3 (fun u => u.rangeAt w2.heap.size 0 P) (first | exact HS7.out | exact HSR.out _ HB6.out | exact HSR.out _ HB5.out | exact HSR.out _ HB40.out)
        (first
          | (go_at_call 53; (with_reducible refine HIH2.out.mono ?_); rintro e w5 ⟨rfl, hb5⟩; have HB5 := Lib.hid (below_of_drew hb5); clear hb5)
          | (go_at_call 24; (with_reducible refine (HPQ.out _).mono ?_); rintro e w6 ⟨rfl, hb6⟩; have HB6 := Lib.hid (HB5.out.trans (Below.mono hb6 HB5.out.size)); have hth := HTH.out w6 HB6.out; have HS7 := Lib.hid (World.rangeAt_setCells_apart (HSR.out w6 HB6.out) w.heap.size 0 R (.inl (by have := HLT.out; omega))); clear hb6))
      go_wp2
      have hk7 := (heap_setCells_all (vs := R) ((HB6.out.block _ (blk_lt HK4.out)).trans HK4.out) (by have := HRF.out.2.1; simpa using this))
      exact bodyPost_ret (results_cell_row rfl _ _ w.heap.size 24 R.toArray (0, 0) _ rfl hk7 HU.out rfl HRF.out.1) rfl ⟨rfl, below_setCells' (Nat.le_refl _) R 0 _ (HB4.out.trans (Below.mono HB6.out HB4.out.size))⟩
end Go.Proofs.YtlmcdkjobdcflaaDoor.Hand
