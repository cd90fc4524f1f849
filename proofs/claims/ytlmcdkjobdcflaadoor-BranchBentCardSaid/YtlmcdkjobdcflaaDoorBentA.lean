/- Several texts in one. -/
import Derived.Test.YtlmcdkjobdcflaaDoorProg
import Derived.Below
import Derived.Deep.Draws
import Derived.Deep.AppendLies
import Derived.Maps.AppendAt
import Derived.OwnWalk
import Derived.Laws.BytesArg
import Derived.Laws.MakeOwn
import Derived.Laws.OwnMore
import Derived.Deep.OwnRows
import Derived.Tactics
import Derived.Lib.ConvBytes
import Derived.Laws.Slices
import Derived.WalkKit
import Derived.KernelRfl
import Derived.RowKit3
import Derived.Deep.LoopGhost
import Derived.Deep.QuietTactic
import Derived.BigQuiet
import Derived.WideLaws
import Derived.Deep.DeepCutAuto
import Derived.Deep.CutBlock
import Derived.Deep.RegionHeld3
import Derived.Laws.Rows
import Derived.Lib.AppendStr
import Derived.ArgAppend
import Derived.Laws.IdiomCopy
import Derived.OrdersHeld
import Derived.Laws.BitsLemmas
import Derived.RowKit
import Derived.StillTailTactics
import Derived.Test.YtlmcdkjobdcflaaDoorWWords
import Derived.Test.YtlmcdkjobdcflaaDoorWLast
import Derived.Test.YtlmcdkjobdcflaaDoorWMore
import Derived.Lib.Hide
import Derived.Outline
import Derived.Deep.MidRow
import Derived.Deep.WholeRow
import Derived.Deep.DrawnRows
import Derived.Test.YtlmcdkjobdcflaaDoorDepth
import Derived.Test.YtlmcdkjobdcflaaDoorMerkA
import Derived.Test.YtlmcdkjobdcflaaDoorArrEq
/- Several texts in one. -/
/- The document's pair, and its node of a level: walked. -/
namespace Go.Proofs.YtlmcdkjobdcflaaDoor.Hand
open Go Go.RowKit Go.Proofs.YtlmcdkjobdcflaaDoor.Plain Go.Proofs.YtlmcdkjobdcflaaDoor.PAll Go.Proofs.YtlmcdkjobdcflaaDoorW.PrintWords Go.Proofs.YtlmcdkjobdcflaaDoorW.PrintLast Go.Proofs.YtlmcdkjobdcflaaDoorW.PrintMore
set_option linter.unusedVariables false
set_option linter.unusedSimpArgs false
set_option maxRecDepth 100000
attribute [local go_sem ↓] Go.wp_at_zero Go.wp_at_succ
attribute [-go_sem] loadVar storeVar Instr.buildSlice
theorem str_append (a b : List Int) : strOfNums (a ++ b) = strOfNums a ++ strOfNums b := by
  apply ByteArray.ext
  simp [strOfNums, ByteArray.data_append]
theorem below_of_drew {w w1 : World} (h : Below w.drew.heap.size w.drew w1) : Below w.heap.size w w1 := (below_drew (Below.refl _ w)).trans h
theorem setRow_alloc_end (w : World) (c c' : Array Value) (t : TypeId) : (w.alloc (.cells c t)).setRow w.heap.size c' = w.alloc (.cells c' t) := World.setRow_alloc_new w c c' t
set_option maxHeartbeats 2000000 in
theorem rpair_calls (p q : List Int) (w : World) (hp : p.length = 32) (hq : q.length = 32) (hpb : ∀ x ∈ p, 0 ≤ x ∧ x < 256) (hqb : ∀ x ∈ q, 0 ≤ x ∧ x < 256) :
    Calls Tryd.prog 24 #[.agg (nums .u8 p).toArray, .agg (nums .u8 q).toArray] w fun e w' => e = .returned (.agg (nums .u8 (twiceP (p ++ q))).toArray) ∧ Below w.heap.size w w' := by
  have HZ := (zero_of_info info32b).1
  obtain ⟨Z, hZ⟩ : ∃ C, nums .u8 (List.replicate 32 0) = C := ⟨_, rfl⟩
  have hZl : Z.length = 32 := by rw [← hZ]; rfl
  rw [hZ] at HZ
  have HT := Lib.hid (fun u => rtwice_calls (p ++ q) u (by simp [hp, hq]) (by
    intro x hx
    rcases List.mem_append.1 hx with h | h
    · exact hpb x h
    · exact hqb x h))
  have hadd : strOfNums p ++ strOfNums q = strOfNums (p ++ q) := (str_append p q).symm
  have hs1 := strOfNums_size p
  have hs2 := strOfNums_size q
  obtain ⟨W, hW⟩ : ∃ W, ((w.alloc (.cells (nums .u8 p).toArray 24)).alloc (.cells (nums .u8 q).toArray 24)).alloc (.cells Z.toArray 24) = W := ⟨_, rfl⟩
  have hWs : W.heap.size = w.heap.size + 3 := by rw [← hW]; simp
  have hWb : Below w.heap.size w W := by rw [← hW]; exact below_alloc (below_alloc (below_alloc (Below.refl _ _) _) _) _
  have hk0 : W.heap[w.heap.size]? = some (.cells (nums .u8 p).toArray 24 (0, 0)) := by rw [← hW]; exact blk_alloc (blk_alloc (heap_alloc_new w _) _) _
  have hk1 : W.heap[w.heap.size + 1]? = some (.cells (nums .u8 q).toArray 24 (0, 0)) := by
    rw [← hW]
    refine blk_alloc ?_ _
    have h := heap_alloc_new (w.alloc (.cells (nums .u8 p).toArray 24)) (.cells (nums .u8 q).toArray 24)
    rwa [World.size_alloc] at h
  have hk2 : W.heap[w.heap.size + 1 + 1]? = some (.cells Z.toArray 24 (0, 0)) := by
    rw [← hW]
    have h := heap_alloc_new ((w.alloc (.cells (nums .u8 p).toArray 24)).alloc (.cells (nums .u8 q).toArray 24)) (.cells Z.toArray 24)
    simpa using h
  have HSS := Lib.hid (show ∀ u : World, Below (w.heap.size + 2) W u → (convert 33 9 (.slice (some ⟨w.heap.size, 0, none⟩) 32 32)).run Tryd.prog u = .ok (.string (strOfNums p)) u ∧ (convert 33 9 (.slice (some ⟨w.heap.size + 1, 0, none⟩) 32 32)).run Tryd.prog u = .ok (.string (strOfNums q)) u from fun u hu => by
    constructor
    · have hC := C_of_block (pre := []) (post := []) (k := .u8) (ys := p) (o := 0) (t := 24) (fr := (0, 0)) (w := u) (b := w.heap.size) (by rw [List.nil_append, List.append_nil]; exact (hu.block _ (by omega)).trans hk0) rfl (by rw [hp]; decide)
      have h := Kd.C_string (P := Tryd.prog) (c := 32) Tryd.underlying33 Tryd.underlying5 Tryd.underlying9 hC
      rwa [hp] at h
    · have hC := C_of_block (pre := []) (post := []) (k := .u8) (ys := q) (o := 0) (t := 24) (fr := (0, 0)) (w := u) (b := w.heap.size + 1) (by rw [List.nil_append, List.append_nil]; exact (hu.block _ (by omega)).trans hk1) rfl (by rw [hq]; decide)
      have h := Kd.C_string (P := Tryd.prog) (c := 32) Tryd.underlying33 Tryd.underlying5 Tryd.underlying9 hC
      rwa [hq] at h)
  obtain ⟨P, hP⟩ : ∃ P, (nums .u8 p).toArray = P := ⟨_, rfl⟩
  obtain ⟨Q, hQ⟩ : ∃ P, (nums .u8 q).toArray = P := ⟨_, rfl⟩
  have hRl : (nums .u8 (twiceP (p ++ q))).length = 32 := by rw [nums_len]; exact twiceP_len _
  have hR1 := nums_one .u8 (twiceP (p ++ q))
  obtain ⟨R, hR⟩ : ∃ P, nums .u8 (twiceP (p ++ q)) = P := ⟨_, rfl⟩
  rw [hR] at hRl hR1 HT
  rw [hP, hQ] at hW
  rw [hP, hQ, hR]
  obtain ⟨T1, hT1⟩ : ∃ T, strOfNums p = T := ⟨_, rfl⟩
  obtain ⟨T2, hT2⟩ : ∃ T, strOfNums q = T := ⟨_, rfl⟩
  obtain ⟨T3, hT3⟩ : ∃ T, strOfNums (p ++ q) = T := ⟨_, rfl⟩
  rw [hT1] at HSS hadd hs1
  rw [hT2] at HSS hadd hs2
  rw [hT3] at HT hadd
  have hle : (9223372036854775807 < T1.size + T2.size) = False := eq_false (by rw [hs1, hs2]; omega)
  have hmax : T1.size + T2.size ≤ 9223372036854775807 := by rw [hs1, hs2]; omega
  have HTH := Lib.hid (show ∀ u : World, Below W.heap.size W u → u.there (w.heap.size + 1 + 1) 0 R.toArray.size from fun u hu => there_blk ((hu.block _ (by omega)).trans hk2) (by simp [hZl, hRl]))
  have HB0 := Lib.hid (below_drew (Below.refl (w.heap.size + 2) W))
  have HFIN := Lib.hid (And.intro hWs (And.intro hWb (And.intro hk2 (And.intro hZl hRl))))
  have hinf : (Tryd.prog.info? 24).map (·.size) = some R.length := by rw [hRl]; exact (zero_of_info info32b).2
  have hs := fun W g => slice_all32 W g
  have HU := Lib.hid Tryd.underlying24
  clear hWs hWb hk0 hk1 hk2 hZl hZ hp hq hpb hqb hP hQ hR hT1 hT2 hT3 hs1 hs2
  go_enter Tryd.func24, Tryd.ntmps24
  go_wp2_with fail
  go_region_held3 (fun u => (convert 33 9 (.slice (some ⟨w.heap.size, 0, none⟩) 32 32)).run Tryd.prog u = .ok (.string T1) u ∧ (convert 33 9 (.slice (some ⟨w.heap.size + 1, 0, none⟩) 32 32)).run Tryd.prog u = .ok (.string T2) u) (first | exact HSS.out _ HB5.out | exact HSS.out _ HB3.out | exact HSS.out _ HB0.out)
    (first
      | (go_at_call 55; (with_reducible refine (HT.out _).mono ?_); rintro e w3 ⟨rfl, hb3'⟩; have hb3 := below_of_drew hb3'; have hth := HTH.out w3 hb3; have HB3 := Lib.hid (Below.mono (B' := w.heap.size + 2) hb3 (by have := HFIN.out.1; show w.heap.size + 2 ≤ W.heap.size; omega)); have HB4 := Lib.hid hb3; have HB5 := Lib.hid (below_setCells' (b := w.heap.size + 1 + 1) (B := w.heap.size + 2) (by omega) R 0 w3 HB3.out); clear hb3 hb3'))
  go_wp2
  obtain ⟨hWs, hWb, hk2, hZl, hRl⟩ := HFIN.out
  have hk3 := heap_setCells_all ((HB4.out.block (w.heap.size + 1 + 1) (by omega)).trans hk2) (hZl.trans hRl.symm)
  exact bodyPost_ret (results_cell_row rfl _ _ (w.heap.size + 1 + 1) 24 R.toArray (0, 0) _ rfl hk3 HU.out rfl (by simpa using hinf)) rfl ⟨rfl, hWb.trans (Below.mono HB5.out (by omega))⟩
end Go.Proofs.YtlmcdkjobdcflaaDoor.Hand

/- The document's root of a list, and whether a list is doubled: walked. -/
namespace Go.Proofs.YtlmcdkjobdcflaaDoor.Hand
open Go Go.RowKit Go.Proofs.YtlmcdkjobdcflaaDoor.Plain Go.Proofs.YtlmcdkjobdcflaaDoor.PAll Go.Proofs.YtlmcdkjobdcflaaDoorW.PrintWords Go.Proofs.YtlmcdkjobdcflaaDoorW.PrintLast Go.Proofs.YtlmcdkjobdcflaaDoorW.PrintMore
set_option linter.unusedVariables false
set_option linter.unusedSimpArgs false
set_option maxRecDepth 100000
theorem eqR (S T : List Int) (hS : S.length = 32) (hT : T.length = 32) (w : World) : (Op.equalIn 10000 24 (.agg (nums .u8 S).toArray) (.agg (nums .u8 T).toArray)).run Tryd.prog w = .ok (S == T) w :=
  run_equalIn_nums (P := Tryd.prog) w 9998 24 5 32 .u8 Tryd.underlying24 Tryd.underlying5 (fun w => by rfl) S T hS hT
theorem built32 : Tryd.prog.built 24 [] = some (nums .u8 (List.replicate 32 0)).toArray := by kernel_rfl
theorem rootP_node {xs : List (List Int)} (h : 1 ≤ xs.length) : nodeP xs (depthP xs.length) 0 = rootP xs := by
  have hd := depthP_is xs.length
  rw [rootP_of hd, rootAt_depth hd h, nodeP_lev]
  exact wideP_pos h _
theorem depthP_le {n : Nat} (h : n ≤ 100000) : depthP n ≤ 1000 := by
  have := depth_le (depthP_is n) (m := 17) (by have : (2 : Nat) ^ 17 = 131072 := by decide
                                               omega)
  omega
end Go.Proofs.YtlmcdkjobdcflaaDoor.Hand

/- The law's lists: the document's form of a list of hashes, and a few small ones: walked. -/
namespace Go.Proofs.YtlmcdkjobdcflaaDoor.Hand
open Go Go.RowKit Go.Proofs.YtlmcdkjobdcflaaDoor.Plain Go.Proofs.YtlmcdkjobdcflaaDoor.PAll Go.Proofs.YtlmcdkjobdcflaaDoorW.PrintWords Go.Proofs.YtlmcdkjobdcflaaDoorW.PrintLast Go.Proofs.YtlmcdkjobdcflaaDoorW.PrintMore
set_option linter.unusedVariables false
set_option linter.unusedSimpArgs false
set_option maxRecDepth 100000
theorem run_load_u8 (w : World) (a : Addr) (v : Value) (h : w.cell? a = some v) : (loadVar 5 a).run Tryd.prog w = .ok v w := by
  go_simp
attribute [-go_sem] loadVar storeVar Instr.buildSlice
theorem info32c : (Tryd.prog.info? 24).map (fun i => (i.zero, i.size, i.bytes)) = some (some (.agg (nums .u8 (List.replicate 32 0)).toArray), 32, 32) := by kernel_rfl
theorem run_hash1r (p : List Int) (h : p.length = 32) (W : World) : (Instr.buildSlice 28 1 #[(0, .agg (nums .u8 p).toArray)]).run Tryd.prog W = .ok (.slice (some ⟨W.heap.size, 0, none⟩) 1 1) (W.alloc (.cells (nums .u8 p).toArray 24)) := by
  obtain ⟨x0, x1, x2, x3, x4, x5, x6, x7, x8, x9, x10, x11, x12, x13, x14, x15, x16, x17, x18, x19, x20, x21, x22, x23, x24, x25, x26, x27, x28, x29, x30, x31, rfl⟩ := list32 p h
  kernel_rfl
theorem take_hash {xs : List (List Int)} {k : Nat} (h : k < xs.length) : xs.take (k + 1) = xs.take k ++ [rdH xs k] := by
  rw [List.take_succ_eq_append_getElem h, rdH_eq h]
/-- A small hash. -/
def smallH (x : Int) : List Int := x :: List.replicate 31 0
theorem smallH_hash {x : Int} (h : 0 ≤ x ∧ x < 256) : (smallH x).length = 32 ∧ ∀ y ∈ smallH x, 0 ≤ y ∧ y < 256 := by
  refine ⟨by simp [smallH], fun y hy => ?_⟩
  rcases List.mem_cons.1 hy with rfl | hy
  · exact h
  · have := List.eq_of_mem_replicate hy
    omega
theorem built_small (x : Int) : Tryd.prog.built 25 [(0, .int .u8 x)] = some (nums .u8 (smallH x)).toArray := by kernel_rfl
def fewP (l : List Int) : List (List Int) := (l.take 20).map smallH
theorem fewP_Hs {l : List Int} (h : ∀ x ∈ l, 0 ≤ x ∧ x < 256) : Hs (fewP l) := by
  intro p hp
  simp only [fewP, List.mem_map] at hp
  obtain ⟨x, hx, rfl⟩ := hp
  exact smallH_hash (h x (List.mem_of_mem_take hx))
theorem fewP_take {l : List Int} {k : Nat} (h : k < l.length) (h2 : k < 20) : (fewP l).take (k + 1) = (fewP l).take k ++ [smallH (rd l (k : Int))] := by
  have hl : k < (fewP l).length := by simp [fewP]; omega
  rw [List.take_succ_eq_append_getElem hl]
  simp [fewP, rd, h]
end Go.Proofs.YtlmcdkjobdcflaaDoor.Hand

/- The law's lists, chapter 09's: walked (as chapter 08's refs). -/
namespace Go.Proofs.YtlmcdkjobdcflaaDoor.Hand
open Go Go.RowKit Go.Proofs.YtlmcdkjobdcflaaDoor.Plain Go.Proofs.YtlmcdkjobdcflaaDoor.PAll Go.Proofs.YtlmcdkjobdcflaaDoorW.PrintWords Go.Proofs.YtlmcdkjobdcflaaDoorW.PrintLast Go.Proofs.YtlmcdkjobdcflaaDoorW.PrintMore
set_option linter.unusedVariables false
set_option linter.unusedSimpArgs false
set_option maxRecDepth 100000
attribute [-go_sem] loadVar storeVar Instr.buildSlice
set_option maxHeartbeats 2000000 in
theorem refs9_calls (A : Option Addr) (n c : Nat) (xs : List (List Int)) (w : World) (hn : n = xs.length) (hr : Kd.C kH w A n xs) (hc : n ≤ c) (hl : n ≤ 100000) (hH : Hs xs) :
    Calls Tryd.prog 32 #[.slice A n c] w fun e w' => ∃ v, e = .returned v ∧ Kd.R kH 24 w' w.heap.size (fun _ => True) v xs ∧ Below w.heap.size w w' := by
  have HZ := (zero_of_info infoHash).1
  obtain ⟨Z, hZ⟩ : ∃ C, (nums .u8 (List.replicate 32 0)).toArray = C := ⟨_, rfl⟩
  rw [hZ] at HZ
  have hZ32 : Z.size = 32 := by rw [← hZ]; rfl
  have HR := Lib.hid hr
  have HN := Lib.hid (And.intro hn (And.intro hH hZ32))
  have HU := Lib.hid Tryd.underlying25
  clear hr hn hH hZ hZ32
  go_enter Tryd.func32, Tryd.ntmps32
  go_wp2_with fail
  go_loopw [3, 8] (fun v i wr => ∃ k : Nat, k ≤ n ∧ i = .int .i64 (k : Int) ∧ Hid (Kd.R kH 24 wr w.heap.size (fun _ => True) v (xs.take k) ∧ Below w.heap.size w wr)) (fun _ i _ => (n + 1 - (intOf i).toNat))
  case atStart => exact ⟨0, Nat.zero_le _, rfl, Lib.hid ⟨Kd.R_nil _ _ _ _ _, Below.refl _ _⟩⟩
  case round =>
    obtain ⟨k, hk, rfl, H⟩ := hrel
    obtain ⟨hR, hB⟩ := H.out
    by_cases hlt : k < n
    · have hklt : k < xs.length := by rw [← HN.out.1]; exact hlt
      obtain ⟨b, o, rfl, hbl, hrg⟩ := C_hash (by rw [← HN.out.1]; exact HR.out) (by omega)
      obtain ⟨hr0, hs0⟩ := hrg k hklt
      have hr1 := range_below hB hbl hr0
      have hg : decide ((k : Int) < (n : Int)) = true := decide_eq_true (by omega)
      have hg2 : (k : Int) < (n : Int) := by omega
      have hbs := fun u => run_hash1r (rdH xs k) hs0 u
      have hPl : (nums .u8 (rdH xs k)).length = 32 := by rw [nums_len]; exact hs0
      have hone := nums_one .u8 (rdH xs k)
      have hcm := fun (u : World) => kH_M (w := u) (base := w.heap.size) (ok := fun _ => False) hs0
      obtain ⟨P, hP⟩ : ∃ P, nums .u8 (rdH xs k) = P := ⟨_, rfl⟩
      rw [hP] at hbs hPl hone hcm hr1
      have HF := Lib.hid (show (Tryd.prog.info? 25).map (·.size) = some P.length ∧ (Tryd.prog.info? 25).map (·.size) = some P.toArray.size ∧ Z.size = P.toArray.size ∧ P.toArray.all (·.oneCell') = true from
        ⟨by rw [hPl]; exact (zero_of_info infoHash).2, by rw [List.size_toArray, hPl]; exact (zero_of_info infoHash).2, HN.out.2.2.trans (by rw [List.size_toArray, hPl]), all_oneCell_toArray hone⟩)
      have HR1 := Lib.hid hr1
      have HRR := Lib.hid (Kd.R_alloc hR (.cells P.toArray 25))
      have HBB := Lib.hid (below_alloc hB (.cells P.toArray 25))
      have HNK := Lib.hid (heap_alloc_new wr (.cells P.toArray 25))
      have HCM := Lib.hid hcm
      have HTL := Lib.hid (show ((xs.take k).length + 1) * 32 ≤ 140737488355328 by rw [List.length_take]; omega)
      have HTK := Lib.hid (take_hash hklt)
      clear hR hB H hrg hr0 hs0 hr1 hPl hone hcm hP hklt
      go_wp2_with (first
        | ((with_reducible show wpList _ _ _ (Oper.mk _ (Op.load _ (.tmp 10)) _ _ _ _ :: _) _ _); (go_loud (refine wpList_load_mid rfl 25 (.tmp 10) rfl b (o + k * 32) rfl P _ HR1.out HU.out rfl HF.out.1 ?_)))
        | ((with_reducible show wpList _ _ _ (Oper.mk _ (Op.load _ (.tmp 5)) _ _ _ _ :: _) _ _); (go_loud (refine wpList_load_row rfl 25 (.tmp 5) rfl wr.heap.size rfl 25 P.toArray (0, 0) _ HNK.out HU.out rfl HF.out.2.1 ?_)))
        | ((with_reducible show wpList _ _ _ (Oper.mk _ (Op.store _ _ _) _ _ _ _ :: _) _ _); (go_loud (refine wpl_store_new rfl 25 (.tmp 5) (.tmp 11) rfl Z P.toArray rfl rfl HF.out.2.1 HF.out.2.2.1 HF.out.2.2.2 ?_)))
        | ((with_reducible refine gate_builtin (b := .append) (xs := #[.tmp 12, .tmp 14]) rfl ?_); at_builtin; refine Kd.R_append kH (w0 := w) w.heap.size rfl (.tmp 12) (.tmp 14) 28 24 (.agg (nums .u8 (List.replicate 32 0)).toArray) 32 rfl Tryd.underlying28 info32c rfl (by decide) (by decide) _ (xs.take k) (rdH xs k) P (fun _ => True) (fun _ => False) rfl (by first | (go_simp; done) | (go_simp; rfl)) (HCM.out _) (fun _ h => h.elim) (fun _ _ => trivial) HRR.out HBB.out HBB.out.size HTL.out ?_; intro v4 w4 ho hb hg hat; have HR4 := Lib.hid ho; have HB4 := Lib.hid hb; clear ho hb hg hat))
      go_roundw
      case rel => exact ⟨k + 1, by omega, by go_num, Lib.hid ⟨by rw [HTK.out]; exact HR4.out, HB4.out⟩⟩
      case measure => simp only [intOf]; omega
    · have hg : decide ((k : Int) < (n : Int)) = false := decide_eq_false (by omega)
      have hx : xs.take k = xs := List.take_of_length_le (by rw [← HN.out.1]; omega)
      rw [hx] at hR
      have HRR := Lib.hid hR
      have HB := Lib.hid hB
      clear hR hB H hx
      go_wp2_with fail
      go_ret
      exact ⟨_, rfl, HRR.out, HB.out⟩
end Go.Proofs.YtlmcdkjobdcflaaDoor.Hand


/- Several texts in one. -/
/- The hash lists' awake: walked. -/
namespace Go.Proofs.YtlmcdkjobdcflaaDoor.Hand
open Go Go.RowKit Go.Proofs.YtlmcdkjobdcflaaDoor.Plain Go.Proofs.YtlmcdkjobdcflaaDoor.PAll Go.Proofs.YtlmcdkjobdcflaaDoorW.PrintWords Go.Proofs.YtlmcdkjobdcflaaDoorW.PrintLast Go.Proofs.YtlmcdkjobdcflaaDoorW.PrintMore
set_option linter.unusedVariables false
set_option linter.unusedSimpArgs false
set_option maxRecDepth 100000
attribute [local go_sem ↓] Go.wp_at_zero Go.wp_at_succ
attribute [-go_sem] loadVar storeVar Instr.buildSlice
theorem depth5 : depthP (5 : Int).toNat = 3 := by decide
theorem root_one (a : List Int) : rootP [a] = a := by
  have hd : IsDepth [a].length 0 := ⟨by simp, fun i hi => absurd hi (by omega)⟩
  rw [rootP_of hd, rootAt_depth hd (by simp)]
  rfl
theorem root_two (a b : List Int) : rootP [a, b] = twiceP (a ++ b) := by
  have hd : IsDepth [a, b].length 1 := ⟨by simp, fun i hi => by
    obtain rfl : i = 0 := by omega
    simp⟩
  rw [rootP_of hd, rootAt_depth hd (by simp), lev, lev, rdH_above (by simp), aboveAt]
  simp [rdH]
theorem doub_two (a : List Int) : doubP [a, a] = true := by
  have hd : IsDepth [a, a].length 1 := ⟨by simp, fun i hi => by
    obtain rfl : i = 0 := by omega
    simp⟩
  rw [doubP_of hd]
  refine doubAt_mono (i := 1) ?_ 2 (by omega)
  show (false || pairedP [a, a]) = true
  simp [pairedP, rdH]
theorem C_hash1 {w : World} {g : Nat} {t : TypeId} {fr : Nat × Nat} {p : List Int} (h : p.length = 32) (hb : w.heap[g]? = some (.cells (nums .u8 p).toArray t fr)) : Kd.C kH w (some ⟨g, 0, none⟩) 1 [p] :=
  C_of_hcs (xs := [p]) (by simpa [hcs] using hb) (by simp [h]) (by simp)
theorem C_hash2 {w : World} {g : Nat} {t : TypeId} {fr : Nat × Nat} {p q : List Int} (h : p.length = 32) (h2 : q.length = 32) (hb : w.heap[g]? = some (.cells (nums .u8 p ++ nums .u8 q).toArray t fr)) : Kd.C kH w (some ⟨g, 0, none⟩) 2 [p, q] :=
  C_of_hcs (xs := [p, q]) (by simpa [hcs] using hb) (by simp [h, h2]) (by simp)
theorem run_hash2 (x y : Int) (W : World) : (Instr.buildSlice 22 2 #[(0, .agg (nums .u8 (smallH x)).toArray), (1, .agg (nums .u8 (smallH y)).toArray)]).run Tryd.prog W = .ok (.slice (some ⟨W.heap.size, 0, none⟩) 2 2) (W.alloc (.cells (nums .u8 (smallH x) ++ nums .u8 (smallH y)).toArray 25)) := by
  kernel_rfl
end Go.Proofs.YtlmcdkjobdcflaaDoor.Hand

/- The laws MerkleRoots and MerkleDoubled: walked. -/
namespace Go.Proofs.YtlmcdkjobdcflaaDoor.Hand
open Go Go.RowKit Go.Proofs.YtlmcdkjobdcflaaDoor.Plain Go.Proofs.YtlmcdkjobdcflaaDoor.PAll Go.Proofs.YtlmcdkjobdcflaaDoorW.PrintWords Go.Proofs.YtlmcdkjobdcflaaDoorW.PrintLast Go.Proofs.YtlmcdkjobdcflaaDoorW.PrintMore
set_option linter.unusedVariables false
set_option linter.unusedSimpArgs false
set_option maxRecDepth 100000
theorem Hs_of {w : World} {A : Option Addr} {xs : List (List Int)} (h : Kd.C kH w A xs.length xs) (ok : ∀ x ∈ xs, ∀ y ∈ x, (Lit.int .u8 y).wf = true) : Hs xs := by
  intro p hp
  obtain ⟨i, hi, rfl⟩ := List.mem_iff_getElem.1 hp
  obtain ⟨b, o, _, _, hrg⟩ := C_hash h (by omega)
  have h1 := (hrg i hi).2
  rw [rdH_eq hi] at h1
  exact ⟨h1, Plain.wf_u8s (ok _ (List.getElem_mem hi))⟩
end Go.Proofs.YtlmcdkjobdcflaaDoor.Hand


/- Several texts in one. -/
/- What is wrong with a branch's numbers: the plain form, and walked. -/
namespace Go.Proofs.YtlmcdkjobdcflaaDoor.Hand
open Go Go.RowKit Go.Proofs.YtlmcdkjobdcflaaDoor.Plain Go.Proofs.YtlmcdkjobdcflaaDoor.PAll Go.Proofs.YtlmcdkjobdcflaaDoorW.PrintWords Go.Proofs.YtlmcdkjobdcflaaDoorW.PrintLast Go.Proofs.YtlmcdkjobdcflaaDoorW.PrintMore
set_option linter.unusedVariables false
set_option linter.unusedSimpArgs false
set_option maxRecDepth 100000
attribute [local go_sem ↓] Go.wp_at_zero Go.wp_at_succ
/-- A branch's value. -/
def bV (cnt idx : Int) (A : Option Addr) (m c : Nat) : Value := .agg #[.int .i64 cnt, .int .i64 idx, .slice A m c]
/-- What is wrong with its numbers. -/
def brightP (cnt idx : Int) (m : Nat) : Int := if cnt < 1 ∨ 65536 < cnt ∨ idx < 0 ∨ cnt ≤ idx then 5 else if m ≠ depthP cnt.toNat then 3 else 0
set_option maxHeartbeats 2000000 in
theorem bright_calls (cnt idx : Int) (A : Option Addr) (m c : Nat) (w : World) (hm : m ≤ 9223372036854775807) (h0 : -9223372036854775808 ≤ cnt) (h1 : cnt ≤ 9223372036854775807) :
    Calls Tryd.prog 37 #[bV cnt idx A m c] w fun e w' => e = .returned (.int .i64 (brightP cnt idx m)) ∧ Below w.heap.size w w' := by
  have HD := Lib.hid (fun u => depth_calls cnt u h0 h1)
  have hk := heap_alloc_new w (.cells #[.int .i64 cnt, .int .i64 idx, .slice A m c] 41)
  have k0 : (w.alloc (.cells #[.int .i64 cnt, .int .i64 idx, .slice A m c] 41)).cell? ⟨w.heap.size, 0, none⟩ = some (.int .i64 cnt) := (blk_cell hk 0).trans rfl
  have k1 : (w.alloc (.cells #[.int .i64 cnt, .int .i64 idx, .slice A m c] 41)).cell? ⟨w.heap.size, 1, none⟩ = some (.int .i64 idx) := (blk_cell hk 1).trans rfl
  have k2 : (w.alloc (.cells #[.int .i64 cnt, .int .i64 idx, .slice A m c] 41)).cell? ⟨w.heap.size, 2, none⟩ = some (.slice A m c) := (blk_cell hk 2).trans rfl
  have HB := Lib.hid (below_alloc (Below.refl w.heap.size w) (.cells #[.int .i64 cnt, .int .i64 idx, .slice A m c] 41))
  unfold bV
  by_cases hbad : cnt < 1 ∨ 65536 < cnt ∨ idx < 0 ∨ cnt ≤ idx
  · have hv : brightP cnt idx m = 5 := if_pos hbad
    clear HD
    rw [hv]
    clear hv
    go_enter Tryd.func37, Tryd.ntmps37
    go_wp2_with fail
    all_goals go_ret
    all_goals exact ⟨rfl, HB.out⟩
  · have f0 : ¬ cnt < 1 := by omega
    have f1 : ¬ 65536 < cnt := by omega
    have f2 : ¬ idx < 0 := by omega
    have f3 : ¬ cnt ≤ idx := by omega
    have hv0 : brightP cnt idx m = if m ≠ depthP cnt.toNat then 3 else 0 := if_neg hbad
    obtain ⟨D, hD⟩ : ∃ D, depthP cnt.toNat = D := ⟨_, rfl⟩
    rw [hD] at HD hv0
    clear hD hbad
    by_cases hmd : m = D
    · have hv : brightP cnt idx m = 0 := by rw [hv0, if_neg (by simpa using hmd)]
      subst hmd
      clear hv0
      rw [hv]
      clear hv
      go_enter Tryd.func37, Tryd.ntmps37
      go_wp2_with fail
      obtain ⟨W, hW⟩ : ∃ W, w.alloc (.cells #[.int .i64 cnt, .int .i64 idx, .slice A m c] 41) = W := ⟨_, rfl⟩
      rw [hW] at k0 k2 HB ⊢
      have HB1 := Lib.hid (below_drew HB.out)
      have hHeld : W.drew.cell? ⟨w.heap.size, 0, none⟩ = some (.int .i64 cnt) ∧ W.drew.cell? ⟨w.heap.size, 2, none⟩ = some (.slice A m c) := ⟨k0, k2⟩
      have HH := Lib.hid hHeld
      clear k0 k1 k2 hk hW
      refine wp_region_held (S := fun u => u.cell? ⟨w.heap.size, 0, none⟩ = some (.int .i64 cnt) ∧ u.cell? ⟨w.heap.size, 2, none⟩ = some (.slice A m c)) (by kernel_rfl) ?_
      change wpAnyH _ _ _ _ _ _ _ _ (World.drew _)
      refine wpAnyH_take (i := 0) (oi := ({ dst := some 25, op := Op.fieldAddr 41 (Operand.tmp 1) 2, type := 0, pos := "branch.go:37", after := #[], guard := none } : Oper)) (v := .pointer (some ⟨w.heap.size, 2, none⟩)) rfl (by kernel_rfl) (by kernel_rfl) (by kernel_rfl) (fun _ _ _ h => h) (Or.inl ⟨by rfl, fun w hSw => by go_simp⟩) hHeld ?_
      simp only [Act.put, List.setIfInBounds_toArray, List.set_cons_zero, List.set_cons_succ]
      refine wpAnyH_take (i := 1) (oi := ({ dst := some 26, op := Op.load 22 (Operand.tmp 25), type := 22, pos := "branch.go:37", after := #[{ on := 0, ground := Ground.data }], guard := none } : Oper)) (v := .slice A m c) rfl (by kernel_rfl) (by kernel_rfl) (by kernel_rfl) (fun _ _ _ h => h) (Or.inl ⟨by rfl, fun w hSw => by obtain ⟨z0, z2⟩ := hSw; go_simp⟩) hHeld ?_
      simp only [Act.put, List.setIfInBounds_toArray, List.set_cons_zero, List.set_cons_succ]
      refine wpAnyH_take (i := 2) (oi := ({ dst := some 27, op := Op.call { callee := Callee.builtin Builtin.len, args := #[Operand.tmp 26], argTypes := #[22] }, type := 3, pos := "branch.go:37", after := #[{ on := 1, ground := Ground.data }], guard := none } : Oper)) (v := .int .i64 (m : Int)) rfl (by kernel_rfl) (by kernel_rfl) (by kernel_rfl) (fun _ _ _ h => h) (Or.inl ⟨by rfl, fun w hSw => by go_simp⟩) hHeld ?_
      simp only [Act.put, List.setIfInBounds_toArray, List.set_cons_zero, List.set_cons_succ]
      refine wpAnyH_take (i := 3) (oi := ({ dst := some 28, op := Op.fieldAddr 41 (Operand.tmp 1) 0, type := 0, pos := "branch.go:37", after := #[], guard := none } : Oper)) (v := .pointer (some ⟨w.heap.size, 0, none⟩)) rfl (by kernel_rfl) (by kernel_rfl) (by kernel_rfl) (fun _ _ _ h => h) (Or.inl ⟨by rfl, fun w hSw => by go_simp⟩) hHeld ?_
      simp only [Act.put, List.setIfInBounds_toArray, List.set_cons_zero, List.set_cons_succ]
      refine wpAnyH_take (i := 4) (oi := ({ dst := some 29, op := Op.load 3 (Operand.tmp 28), type := 3, pos := "branch.go:37", after := #[{ on := 3, ground := Ground.data }], guard := none } : Oper)) (v := .int .i64 cnt) rfl (by kernel_rfl) (by kernel_rfl) (by kernel_rfl) (fun _ _ _ h => h) (Or.inl ⟨by rfl, fun w hSw => by obtain ⟨z0, z2⟩ := hSw; go_simp⟩) hHeld ?_
      simp only [Act.put, List.setIfInBounds_toArray, List.set_cons_zero, List.set_cons_succ]
      refine wpAnyH_ready (rs := [5]) (by kernel_rfl) (by simp) ?_
      refine AllReadyH.cons (o := ({ dst := some 30, op := Op.call { callee := Callee.value (Operand.func 28), args := #[Operand.tmp 29], argTypes := #[3] }, type := 3, pos := "branch.go:37", after := #[{ on := 4, ground := Ground.data }], guard := none } : Oper)) rfl (fun K hK => ?_) AllReadyH.nil
      go_simp
      (with_reducible refine (HD.out _).mono ?_)
      rintro e w3 ⟨rfl, rfl⟩
      refine hK.out _ _ (HH.out) (fun hHeld => ?_)
      clear hK K
      try simp only [Act.put, List.setIfInBounds_toArray, List.set_cons_zero, List.set_cons_succ]
      refine wpAnyH_take (i := 6) (oi := ({ dst := some 31, op := Op.binOp BinOp.neq 3 (Operand.tmp 27) (Operand.tmp 30) 3, type := 4, pos := "branch.go:37", after := #[{ on := 2, ground := Ground.data }, { on := 5, ground := Ground.data }], guard := none } : Oper)) (v := .bool false) rfl (by kernel_rfl) (by kernel_rfl) (by kernel_rfl) (fun _ _ _ h => h) (Or.inl ⟨by rfl, fun w hSw => by go_simp⟩) hHeld ?_
      simp only [Act.put, List.setIfInBounds_toArray, List.set_cons_zero, List.set_cons_succ]
      refine wpAnyH_take (i := 7) (oi := ({ dst := some 24, op := Op.assign (Operand.tmp 31), type := 4, pos := "branch.go:37", after := #[{ on := 6, ground := Ground.data }, { on := 5, ground := Ground.chain }], guard := none } : Oper)) (v := .bool false) rfl (by kernel_rfl) (by kernel_rfl) (by kernel_rfl) (fun _ _ _ h => h) (Or.inl ⟨by rfl, fun w hSw => by go_simp⟩) hHeld ?_
      simp only [Act.put, List.setIfInBounds_toArray, List.set_cons_zero, List.set_cons_succ]
      refine wpAnyH_done (by kernel_rfl) ?_ _
      clear hHeld
      go_wp2_with fail
      go_ret
      exact ⟨rfl, HB1.out⟩
    · have hv : brightP cnt idx m = 3 := by rw [hv0, if_pos hmd]
      have hmi : ¬ (m : Int) = (D : Int) := by omega
      clear hv0
      rw [hv]
      clear hv
      go_enter Tryd.func37, Tryd.ntmps37
      go_wp2_with fail
      obtain ⟨W, hW⟩ : ∃ W, w.alloc (.cells #[.int .i64 cnt, .int .i64 idx, .slice A m c] 41) = W := ⟨_, rfl⟩
      rw [hW] at k0 k2 HB ⊢
      have HB1 := Lib.hid (below_drew HB.out)
      have hHeld : W.drew.cell? ⟨w.heap.size, 0, none⟩ = some (.int .i64 cnt) ∧ W.drew.cell? ⟨w.heap.size, 2, none⟩ = some (.slice A m c) := ⟨k0, k2⟩
      have HH := Lib.hid hHeld
      clear k0 k1 k2 hk hW
      refine wp_region_held (S := fun u => u.cell? ⟨w.heap.size, 0, none⟩ = some (.int .i64 cnt) ∧ u.cell? ⟨w.heap.size, 2, none⟩ = some (.slice A m c)) (by kernel_rfl) ?_
      change wpAnyH _ _ _ _ _ _ _ _ (World.drew _)
      refine wpAnyH_take (i := 0) (oi := ({ dst := some 25, op := Op.fieldAddr 41 (Operand.tmp 1) 2, type := 0, pos := "branch.go:37", after := #[], guard := none } : Oper)) (v := .pointer (some ⟨w.heap.size, 2, none⟩)) rfl (by kernel_rfl) (by kernel_rfl) (by kernel_rfl) (fun _ _ _ h => h) (Or.inl ⟨by rfl, fun w hSw => by go_simp⟩) hHeld ?_
      simp only [Act.put, List.setIfInBounds_toArray, List.set_cons_zero, List.set_cons_succ]
      refine wpAnyH_take (i := 1) (oi := ({ dst := some 26, op := Op.load 22 (Operand.tmp 25), type := 22, pos := "branch.go:37", after := #[{ on := 0, ground := Ground.data }], guard := none } : Oper)) (v := .slice A m c) rfl (by kernel_rfl) (by kernel_rfl) (by kernel_rfl) (fun _ _ _ h => h) (Or.inl ⟨by rfl, fun w hSw => by obtain ⟨z0, z2⟩ := hSw; go_simp⟩) hHeld ?_
      simp only [Act.put, List.setIfInBounds_toArray, List.set_cons_zero, List.set_cons_succ]
      refine wpAnyH_take (i := 2) (oi := ({ dst := some 27, op := Op.call { callee := Callee.builtin Builtin.len, args := #[Operand.tmp 26], argTypes := #[22] }, type := 3, pos := "branch.go:37", after := #[{ on := 1, ground := Ground.data }], guard := none } : Oper)) (v := .int .i64 (m : Int)) rfl (by kernel_rfl) (by kernel_rfl) (by kernel_rfl) (fun _ _ _ h => h) (Or.inl ⟨by rfl, fun w hSw => by go_simp⟩) hHeld ?_
      simp only [Act.put, List.setIfInBounds_toArray, List.set_cons_zero, List.set_cons_succ]
      refine wpAnyH_take (i := 3) (oi := ({ dst := some 28, op := Op.fieldAddr 41 (Operand.tmp 1) 0, type := 0, pos := "branch.go:37", after := #[], guard := none } : Oper)) (v := .pointer (some ⟨w.heap.size, 0, none⟩)) rfl (by kernel_rfl) (by kernel_rfl) (by kernel_rfl) (fun _ _ _ h => h) (Or.inl ⟨by rfl, fun w hSw => by go_simp⟩) hHeld ?_
      simp only [Act.put, List.setIfInBounds_toArray, List.set_cons_zero, List.set_cons_succ]
      refine wpAnyH_take (i := 4) (oi := ({ dst := some 29, op := Op.load 3 (Operand.tmp 28), type := 3, pos := "branch.go:37", after := #[{ on := 3, ground := Ground.data }], guard := none } : Oper)) (v := .int .i64 cnt) rfl (by kernel_rfl) (by kernel_rfl) (by kernel_rfl) (fun _ _ _ h => h) (Or.inl ⟨by rfl, fun w hSw => by obtain ⟨z0, z2⟩ := hSw; go_simp⟩) hHeld ?_
      simp only [Act.put, List.setIfInBounds_toArray, List.set_cons_zero, List.set_cons_succ]
      refine wpAnyH_ready (rs := [5]) (by kernel_rfl) (by simp) ?_
      refine AllReadyH.cons (o := ({ dst := some 30, op := Op.call { callee := Callee.value (Operand.func 28), args := #[Operand.tmp 29], argTypes := #[3] }, type := 3, pos := "branch.go:37", after := #[{ on := 4, ground := Ground.data }], guard := none } : Oper)) rfl (fun K hK => ?_) AllReadyH.nil
      go_simp
      (with_reducible refine (HD.out _).mono ?_)
      rintro e w3 ⟨rfl, rfl⟩
      refine hK.out _ _ (HH.out) (fun hHeld => ?_)
      clear hK K
      try simp only [Act.put, List.setIfInBounds_toArray, List.set_cons_zero, List.set_cons_succ]
      refine wpAnyH_take (i := 6) (oi := ({ dst := some 31, op := Op.binOp BinOp.neq 3 (Operand.tmp 27) (Operand.tmp 30) 3, type := 4, pos := "branch.go:37", after := #[{ on := 2, ground := Ground.data }, { on := 5, ground := Ground.data }], guard := none } : Oper)) (v := .bool true) rfl (by kernel_rfl) (by kernel_rfl) (by kernel_rfl) (fun _ _ _ h => h) (Or.inl ⟨by rfl, fun w hSw => by go_simp⟩) hHeld ?_
      simp only [Act.put, List.setIfInBounds_toArray, List.set_cons_zero, List.set_cons_succ]
      refine wpAnyH_take (i := 7) (oi := ({ dst := some 24, op := Op.assign (Operand.tmp 31), type := 4, pos := "branch.go:37", after := #[{ on := 6, ground := Ground.data }, { on := 5, ground := Ground.chain }], guard := none } : Oper)) (v := .bool true) rfl (by kernel_rfl) (by kernel_rfl) (by kernel_rfl) (fun _ _ _ h => h) (Or.inl ⟨by rfl, fun w hSw => by go_simp⟩) hHeld ?_
      simp only [Act.put, List.setIfInBounds_toArray, List.set_cons_zero, List.set_cons_succ]
      refine wpAnyH_done (by kernel_rfl) ?_ _
      clear hHeld
      go_wp2_with fail
      go_ret
      exact ⟨rfl, HB1.out⟩
end Go.Proofs.YtlmcdkjobdcflaaDoor.Hand

/- From a leaf up, by a branch: the plain form, and walked. -/
namespace Go.Proofs.YtlmcdkjobdcflaaDoor.Hand
open Go Go.RowKit Go.Proofs.YtlmcdkjobdcflaaDoor.Plain Go.Proofs.YtlmcdkjobdcflaaDoor.PAll Go.Proofs.YtlmcdkjobdcflaaDoorW.PrintWords Go.Proofs.YtlmcdkjobdcflaaDoorW.PrintLast Go.Proofs.YtlmcdkjobdcflaaDoorW.PrintMore
set_option linter.unusedVariables false
set_option linter.unusedSimpArgs false
set_option maxRecDepth 100000
attribute [local go_sem ↓] Go.wp_at_zero Go.wp_at_succ
theorem run_load_i64 (w : World) (a : Addr) (v : Value) (h : w.cell? a = some v) : (loadVar 3 a).run Tryd.prog w = .ok v w := by
  go_simp
theorem run_load_hs (w : World) (a : Addr) (v : Value) (h : w.cell? a = some v) : (loadVar 22 a).run Tryd.prog w = .ok v w := by
  go_simp
attribute [-go_sem] loadVar storeVar Instr.buildSlice
/-- The way up: none where a place that may not be doubled is, or one that must be is not. -/
def upF : List (List Int) → Nat → Nat → List Int → Option (List Int)
  | [], _, _, leaf => some leaf
  | h :: hs, p, n, leaf => if ((p % 2 == 0 && p == n - 1) != (h == leaf)) = true then none else upF hs (p / 2) ((n + 1) / 2) (if p % 2 = 0 then twiceP (leaf ++ h) else twiceP (h ++ leaf))
def upP (cnt idx : Int) (xs : List (List Int)) (leaf : List Int) : List Int × Int :=
  if brightP cnt idx xs.length ≠ 0 then (z32h, brightP cnt idx xs.length) else match upF xs idx.toNat cnt.toNat leaf with
    | none => (z32h, 15)
    | some x => (x, 0)
theorem upF_cons {xs : List (List Int)} {k : Nat} (h : k < xs.length) (p n : Nat) (leaf : List Int) : upF (xs.drop k) p n leaf = if ((p % 2 == 0 && p == n - 1) != (rdH xs k == leaf)) = true then none else upF (xs.drop (k + 1)) (p / 2) ((n + 1) / 2) (if p % 2 = 0 then twiceP (leaf ++ rdH xs k) else twiceP (rdH xs k ++ leaf)) := by
  rw [List.drop_eq_getElem_cons h, upF, rdH_eq h]
theorem upF_nil {xs : List (List Int)} {k : Nat} (h : xs.length ≤ k) (p n : Nat) (leaf : List Int) : upF (xs.drop k) p n leaf = some leaf := by
  rw [List.drop_of_length_le h, upF]
theorem infoB : (Tryd.prog.info? 41).map (·.size) = some 3 := by kernel_rfl
theorem built_hash0 : Tryd.prog.built 25 [] = some (nums .u8 z32h).toArray := by kernel_rfl
theorem alloc3 (w : World) (a b c : Obj) : ((((w.alloc a).alloc b).alloc c).heap[w.heap.size]? = some a ∧ (((w.alloc a).alloc b).alloc c).heap[w.heap.size + 1]? = some b ∧ (((w.alloc a).alloc b).alloc c).heap[w.heap.size + 1 + 1]? = some c) := by
  have s1 : ((w.alloc a).alloc b).heap.size = w.heap.size + 2 := by
    show ((w.heap.push a).push b).size = _
    simp
  refine ⟨blk_alloc (heap_alloc2_old w a b) c, blk_alloc (heap_alloc2_new w a b) c, ?_⟩
  have h := heap_alloc_new ((w.alloc a).alloc b) c
  rwa [s1] at h
set_option maxHeartbeats 4000000 in
theorem up_calls (cnt idx : Int) (A : Option Addr) (m c : Nat) (xs : List (List Int)) (leaf : List Int) (w : World) (hm : m = xs.length) (hr : Kd.C kH w A m xs) (hc : m ≤ c) (hH : Hs xs) (hl32 : leaf.length = 32) (hlb : ∀ x ∈ leaf, 0 ≤ x ∧ x < 256) (hK : KT w)
    (h0 : -9223372036854775808 ≤ cnt) (h1 : cnt ≤ 9223372036854775807) :
    Calls Tryd.prog 34 #[bV cnt idx A m c, .agg (nums .u8 leaf).toArray] w fun e w' => e = .returned (.tuple #[.agg (nums .u8 (upP cnt idx xs leaf).1).toArray, .int .i64 (upP cnt idx xs leaf).2]) ∧ Below w.heap.size w w' := by
  have hmx := Kd.C_max hr
  have HRI := Lib.hid (fun u => bright_calls cnt idx A m c u hmx h0 h1)
  have HHZ := (zero_of_info infoHash).1
  have hLl : (nums .u8 leaf).length = 32 := by rw [nums_len]; exact hl32
  have hL1 := nums_one .u8 leaf
  have hZ1 := nums_one .u8 z32h
  obtain ⟨L, hL⟩ : ∃ L, nums .u8 leaf = L := ⟨_, rfl⟩
  rw [hL] at hLl hL1 ⊢
  obtain ⟨Z, hZ⟩ : ∃ Z, nums .u8 z32h = Z := ⟨_, rfl⟩
  have hZl : Z.length = 32 := by rw [← hZ]; rfl
  have HHZ2 : ∀ u : World, (zeroValue 25).run Tryd.prog u = .ok (.agg Z.toArray) u := by rw [← hZ]; exact HHZ
  obtain ⟨hA0, hL0, hZ0⟩ := alloc3 w (.cells #[.int .i64 cnt, .int .i64 idx, .slice A m c] 41) (.cells L.toArray 25) (.cells Z.toArray 25)
  have HB0 := Lib.hid (below_alloc (below_alloc (below_alloc (Below.refl w.heap.size w) (.cells #[.int .i64 cnt, .int .i64 idx, .slice A m c] 41)) (.cells L.toArray 25)) (.cells Z.toArray 25))
  have HUB := Lib.hid Tryd.underlying41
  have HU := Lib.hid Tryd.underlying25
  have HIZ := Lib.hid (show (Tryd.prog.info? 25).map (·.size) = some Z.toArray.size ∧ Z.toArray.all (·.oneCell') = true from ⟨by rw [List.size_toArray, hZl]; exact (zero_of_info infoHash).2, all_oneCell_toArray (by rw [← hZ]; exact hZ1)⟩)
  have HBU := Lib.hid (show Tryd.prog.built 25 [] = some Z.toArray by rw [← hZ]; exact built_hash0)
  have HM := Lib.hid hm
  have HR := Lib.hid hr
  have HHX := Lib.hid hH
  have HK := Lib.hid hK
  have HLF := Lib.hid (And.intro hl32 (And.intro hlb hL))
  have HZZ := Lib.hid (And.intro hZ hZl)
  unfold bV at HRI ⊢
  obtain ⟨up, hup⟩ : ∃ u, upP cnt idx xs leaf = u := ⟨_, rfl⟩
  rw [hup]
  have HUP := Lib.hid hup
  obtain ⟨e0, he0⟩ : ∃ e, brightP cnt idx m = e := ⟨_, rfl⟩
  have HE0 := Lib.hid he0
  rw [he0] at HRI
  obtain ⟨W0, hW0⟩ : ∃ W0, ((w.alloc (.cells #[.int .i64 cnt, .int .i64 idx, .slice A m c] 41)).alloc (.cells L.toArray 25)).alloc (.cells Z.toArray 25) = W0 := ⟨_, rfl⟩
  rw [hW0] at hA0 hL0 hZ0 HB0
  have HA0 := Lib.hid hA0
  have HLZ0 := Lib.hid (And.intro hL0 hZ0)
  have HW0 := Lib.hid hW0
  clear HHZ hA0 hL0 hZ0 hm hr hH hK hl32 hlb hLl hL1 hZ1 hZ hL hZl hup he0 hW0
  by_cases hok : e0 = 0
  · subst hok
    have hgood : (1 ≤ cnt ∧ cnt ≤ 65536) ∧ (0 ≤ idx ∧ idx < cnt) := by
      have h := HE0.out
      unfold brightP at h
      by_cases hb : cnt < 1 ∨ 65536 < cnt ∨ idx < 0 ∨ cnt ≤ idx
      · rw [if_pos hb] at h
        exact absurd h (by decide)
      · omega
    obtain ⟨q, rfl⟩ : ∃ q : Nat, cnt = (q : Int) := ⟨cnt.toNat, by omega⟩
    obtain ⟨i, rfl⟩ : ∃ i : Nat, idx = (i : Int) := ⟨idx.toNat, by omega⟩
    have hval : up = match upF xs i q leaf with
      | none => (z32h, 15)
      | some x => (x, 0) := by
      rw [← HUP.out]
      unfold upP
      rw [← HM.out, HE0.out, if_neg (by decide), Int.toNat_natCast, Int.toNat_natCast]
    have HVAL := Lib.hid hval
    have HGD := Lib.hid hgood
    clear hval hgood h0 h1
    go_enter Tryd.func34, Tryd.ntmps34
    go_wp2_with ((with_reducible show wpList _ _ _ (Oper.mk _ (Op.load _ (.tmp 2)) _ _ _ _ :: _) _ _); rw [HW0.out]; (go_loud (refine wpList_load_row rfl 41 (.tmp 2) rfl w.heap.size rfl 41 #[.int .i64 (q : Int), .int .i64 (i : Int), .slice A m c] (0, 0) _ HA0.out HUB.out rfl infoB ?_)))
    refine (HRI.out _).mono ?_
    rintro e w1 ⟨rfl, hb1⟩
    have HB1 := Lib.hid (below_drew (HB0.out.trans (Below.mono hb1 HB0.out.size)))
    have hA1 : w1.drew.heap[w.heap.size]? = _ := (hb1.block _ (blk_lt HA0.out)).trans HA0.out
    have HL1 := Lib.hid (show w1.drew.heap[w.heap.size + 1]? = _ from (hb1.block _ (blk_lt HLZ0.out.1)).trans HLZ0.out.1)
    have HZ1 := Lib.hid (show w1.drew.heap[w.heap.size + 1 + 1]? = _ from (hb1.block _ (blk_lt HLZ0.out.2)).trans HLZ0.out.2)
    have hHeld : (loadVar 3 ⟨w.heap.size, 1, none⟩).run Tryd.prog w1.drew = .ok (.int .i64 (i : Int)) w1.drew ∧ (loadVar 3 ⟨w.heap.size, 0, none⟩).run Tryd.prog w1.drew = .ok (.int .i64 (q : Int)) w1.drew := ⟨run_load_i64 _ _ _ ((blk_cell hA1 1).trans rfl), run_load_i64 _ _ _ ((blk_cell hA1 0).trans rfl)⟩
    have HH2 := Lib.hid (run_load_hs _ _ _ ((blk_cell hA1 2).trans rfl : w1.drew.cell? ⟨w.heap.size, 2, none⟩ = some (.slice A m c)))
    clear hb1 hA1
    go_wp2_with fail
    refine wp_region_held (S := fun u => (loadVar 3 ⟨w.heap.size, 1, none⟩).run Tryd.prog u = .ok (.int .i64 (i : Int)) u ∧ (loadVar 3 ⟨w.heap.size, 0, none⟩).run Tryd.prog u = .ok (.int .i64 (q : Int)) u) (by kernel_rfl) ?_
    change wpAnyH _ _ _ _ _ _ _ _ (World.drew _)
    refine wpAnyH_take (i := 0) (oi := ({ dst := some 18, op := Op.fieldAddr 41 (Operand.tmp 2) 1, type := 0, pos := "branch.go:48", after := #[], guard := none } : Oper)) (v := .pointer (some ⟨w.heap.size, 1, none⟩)) rfl (by kernel_rfl) (by kernel_rfl) (by kernel_rfl) (fun _ _ _ h => h) (Or.inl ⟨by rfl, fun w hSw => by go_simp⟩) hHeld ?_
    simp only [Act.put, List.setIfInBounds_toArray, List.set_cons_zero, List.set_cons_succ]
    refine wpAnyH_take (i := 1) (oi := ({ dst := some 19, op := Op.load 3 (Operand.tmp 18), type := 3, pos := "branch.go:48", after := #[{ on := 0, ground := Ground.data }], guard := none } : Oper)) (v := .int .i64 (i : Int)) rfl (by kernel_rfl) (by kernel_rfl) (by kernel_rfl) (fun _ _ _ h => h) (Or.inl ⟨by rfl, fun w hSw => by obtain ⟨z0, z2⟩ := hSw; go_simp⟩) hHeld ?_
    simp only [Act.put, List.setIfInBounds_toArray, List.set_cons_zero, List.set_cons_succ]
    refine wpAnyH_take (i := 2) (oi := ({ dst := some 20, op := Op.fieldAddr 41 (Operand.tmp 2) 0, type := 0, pos := "branch.go:48", after := #[{ on := 4, ground := Ground.gcOnly Departure.lateStores }], guard := none } : Oper)) (v := .pointer (some ⟨w.heap.size, 0, none⟩)) rfl (by kernel_rfl) (by kernel_rfl) (by kernel_rfl) (fun _ _ _ h => h) (Or.inl ⟨by rfl, fun w hSw => by go_simp⟩) hHeld ?_
    simp only [Act.put, List.setIfInBounds_toArray, List.set_cons_zero, List.set_cons_succ]
    refine wpAnyH_take (i := 3) (oi := ({ dst := some 21, op := Op.load 3 (Operand.tmp 20), type := 3, pos := "branch.go:48", after := #[{ on := 2, ground := Ground.data }, { on := 4, ground := Ground.gcOnly Departure.lateStores }], guard := none } : Oper)) (v := .int .i64 (q : Int)) rfl (by kernel_rfl) (by kernel_rfl) (by kernel_rfl) (fun _ _ _ h => h) (Or.inl ⟨by rfl, fun w hSw => by obtain ⟨z0, z2⟩ := hSw; go_simp⟩) hHeld ?_
    simp only [Act.put, List.setIfInBounds_toArray, List.set_cons_zero, List.set_cons_succ]
    refine wpAnyH_take (i := 4) (oi := ({ dst := some 7, op := Op.assign (Operand.tmp 19), type := 3, pos := "branch.go:48", after := #[{ on := 1, ground := Ground.data }, { on := 0, ground := Ground.phase }, { on := 1, ground := Ground.phase }, { on := 2, ground := Ground.textOnly Departure.lateStores }, { on := 3, ground := Ground.textOnly Departure.lateStores }], guard := none } : Oper)) (v := .int .i64 (i : Int)) rfl (by kernel_rfl) (by kernel_rfl) (by kernel_rfl) (fun _ _ _ h => h) (Or.inl ⟨by rfl, fun w hSw => by go_simp⟩) hHeld ?_
    simp only [Act.put, List.setIfInBounds_toArray, List.set_cons_zero, List.set_cons_succ]
    refine wpAnyH_take (i := 5) (oi := ({ dst := some 8, op := Op.assign (Operand.tmp 21), type := 3, pos := "branch.go:48", after := #[{ on := 3, ground := Ground.data }, { on := 4, ground := Ground.chain }, { on := 0, ground := Ground.phase }, { on := 1, ground := Ground.phase }, { on := 2, ground := Ground.phase }, { on := 3, ground := Ground.phase }, { on := 4, ground := Ground.phase }], guard := none } : Oper)) (v := .int .i64 (q : Int)) rfl (by kernel_rfl) (by kernel_rfl) (by kernel_rfl) (fun _ _ _ h => h) (Or.inl ⟨by rfl, fun w hSw => by go_simp⟩) hHeld ?_
    simp only [Act.put, List.setIfInBounds_toArray, List.set_cons_zero, List.set_cons_succ]
    refine wpAnyH_done (by kernel_rfl) ?_ _
    clear hHeld
    obtain ⟨W2, hW2⟩ : ∃ W2, w1.drew = W2 := ⟨_, rfl⟩
    rw [hW2] at HB1 HL1 HZ1 HH2 ⊢
    have hh2 := HH2.out
    clear hW2
    go_wp2_with fail
    clear hh2 HH2
    go_loopw [7, 8, 25] (fun vp vn vk wr => ∃ (k p nn : Nat) (lf : List Int), vp = .int .i64 (p : Int) ∧ vn = .int .i64 (nn : Int) ∧ vk = .int .i64 (k : Int) ∧ Hid ((k ≤ m ∧ p ≤ 65536 ∧ 1 ≤ nn ∧ nn ≤ 65536) ∧ (lf.length = 32 ∧ ∀ x ∈ lf, 0 ≤ x ∧ x < 256) ∧ wr.heap[w.heap.size + 1]? = some (.cells (nums .u8 lf).toArray 25 (0, 0)) ∧ wr.heap[w.heap.size + 1 + 1]? = some (.cells Z.toArray 25 (0, 0)) ∧ Below w.heap.size w wr ∧ upF (xs.drop k) p nn lf = upF xs i q leaf)) (fun _ _ vk _ => m + 1 - (intOf vk).toNat)
    case atStart => exact ⟨0, i, q, leaf, rfl, rfl, rfl, Lib.hid ⟨⟨Nat.zero_le _, by have := HGD.out; omega, by have := HGD.out; omega, by have := HGD.out; omega⟩, ⟨HLF.out.1, HLF.out.2.1⟩, by rw [HLF.out.2.2]; exact HL1.out, HZ1.out, HB1.out, rfl⟩⟩
    case round =>
      obtain ⟨k, p, nn, lf, rfl, rfl, rfl, H⟩ := hrel
      obtain ⟨⟨hk, hp1, hn1, hn2⟩, hlf, hLa, hZa, hB, heq⟩ := H.out
      by_cases hlt : k < m
      · have hkx : k < xs.length := by rw [← HM.out]; exact hlt
        rw [upF_cons hkx] at heq
        have hhb := HHX.out.any k
        obtain ⟨b, o, rfl, hbl, hrg⟩ := C_hash (by rw [← HM.out]; exact HR.out) (by omega)
        have hrg1 := range_below hB hbl (hrg k hkx).1
        obtain ⟨hh, hhe⟩ : ∃ h, rdH xs k = h := ⟨_, rfl⟩
        rw [hhe] at heq hhb hrg1
        have HLB := Lib.hid hlf
        have HHB := Lib.hid hhb
        have hHl : (nums .u8 hh).length = 32 := by rw [nums_len]; exact hhb.1
        have hLl : (nums .u8 lf).length = 32 := by rw [nums_len]; exact hlf.1
        have hHo := nums_one .u8 hh
        have q0 := fun u => eqH hh lf hhb.1 hlf.1 u
        obtain ⟨HC, hHC⟩ : ∃ x, nums .u8 hh = x := ⟨_, rfl⟩
        obtain ⟨LC, hLC⟩ : ∃ x, nums .u8 lf = x := ⟨_, rfl⟩
        rw [hHC] at hHl hHo q0 hrg1
        rw [hLC] at hLl q0 hLa
        have HHB2 := Lib.hid hHC
        have HLB2 := Lib.hid hLC
        have HRG := Lib.hid hrg1
        have HIC := Lib.hid (show (Tryd.prog.info? 25).map (·.size) = some HC.length ∧ (Tryd.prog.info? 25).map (·.size) = some HC.toArray.size ∧ Z.toArray.size = HC.toArray.size ∧ HC.toArray.all (·.oneCell') = true from ⟨by rw [hHl]; exact (zero_of_info infoHash).2, by rw [List.size_toArray, hHl]; exact (zero_of_info infoHash).2, by rw [List.size_toArray, List.size_toArray, hHl, HZZ.out.2], all_oneCell_toArray hHo⟩)
        have HIL := Lib.hid (show (Tryd.prog.info? 25).map (·.size) = some LC.toArray.size ∧ LC.length = 32 from ⟨by rw [List.size_toArray, hLl]; exact (zero_of_info infoHash).2, hLl⟩)
        have HBA := Lib.hid (below_alloc hB (.cells HC.toArray 25))
        have HNA := Lib.hid (heap_alloc_new wr (.cells HC.toArray 25))
        have HLA := Lib.hid (blk_alloc hLa (.cells HC.toArray 25))
        have HZA := Lib.hid (blk_alloc hZa (.cells HC.toArray 25))
        have HEQ := Lib.hid heq
        have HNUM := Lib.hid (show (k < m ∧ p ≤ 65536 ∧ 1 ≤ nn ∧ nn ≤ 65536) ∧ m ≤ 9223372036854775807 from ⟨⟨hlt, hp1, hn1, hn2⟩, hmx⟩)
        have hwn : IntKind.i64.wrap ((nn : Int) - 1) = (nn : Int) - 1 := IntWalk.i64_in _ (by omega)
        have hwn2 : IntKind.i64.wrap ((nn : Int) + 1) = (nn : Int) + 1 := IntWalk.i64_in _ (by omega)
        have g5 : (0 : Int) ≤ (k : Int) := by omega
        have g6 : (k : Int) < (m : Int) := by omega
        clear hlf hhb hHl hLl hHo hHC hLC hrg1 hrg hhe hB hLa hZa heq hkx hbl H
        by_cases ev : p % 2 = 0
        · have e1 : (p : Int) % 2 = 0 := by omega
          have bev : (p % 2 == 0) = true := by simpa using ev
          by_cases la : p = nn - 1
          · have e2 : ((p : Int) == (nn : Int) - 1) = true := by rw [beq_iff_eq]; omega
            have bla : (p == nn - 1) = true := by simpa using la
            clear la
            by_cases sm : (hh == lf) = true
            · rw [sm] at q0
              have HEQ2 := Lib.hid (show upF (xs.drop (k + 1)) (p / 2) ((nn + 1) / 2) (twiceP [lf, hh].flatten) = upF xs i q leaf from by
                have h := HEQ.out
                rw [if_neg (by simp [bev, bla, sm]), if_pos ev] at h
                simpa using h)
              have HYY := Lib.hid (show ∀ ys ∈ [lf, hh], ∀ x ∈ ys, 0 ≤ x ∧ x < 256 from fun ys hy => by
                simp only [List.mem_cons, List.not_mem_nil, or_false] at hy
                rcases hy with rfl | rfl
                · exact HLB.out.2
                · exact HHB.out.2)
              have HYL := Lib.hid (show [lf, hh].flatten.length ≤ 900000 by simp [HLB.out.1, HHB.out.1])
              obtain ⟨tw, htw⟩ : ∃ x, twiceP ([lf, hh].flatten) = x := ⟨_, rfl⟩
              have HTL := Lib.hid (show tw.length = 32 ∧ ∀ x ∈ tw, 0 ≤ x ∧ x < 256 by rw [← htw]; exact ⟨twiceP_len _, twiceP_bytes _⟩)
              have HTI := Lib.hid (show (Tryd.prog.info? 25).map (·.size) = some (nums .u8 tw).toArray.size ∧ LC.toArray.size = (nums .u8 tw).toArray.size ∧ (nums .u8 tw).toArray.all (·.oneCell') = true from ⟨by rw [List.size_toArray, nums_len, HTL.out.1]; exact (zero_of_info infoHash).2, by rw [List.size_toArray, List.size_toArray, nums_len, HTL.out.1, HIL.out.2], all_oneCell_toArray (nums_one _ _)⟩)
              rw [htw] at HEQ2
              obtain ⟨Wb, hWb⟩ : ∃ W, ((wr.alloc (.cells HC.toArray 25)).alloc (.cells #[.slice (some ⟨(w.heap.size + 1), 0, none⟩) 32 32, .slice (some ⟨wr.heap.size, 0, none⟩) 32 32] 33)).drew = W := ⟨_, rfl⟩
              have HWb := Lib.hid hWb
              have HBb := Lib.hid (show Below w.heap.size w Wb by rw [← hWb]; exact below_drew (below_alloc HBA.out _))
              have HNb := Lib.hid (show Wb.heap[w.heap.size + 1]? = some (.cells LC.toArray 25 (0, 0)) ∧ Wb.heap[w.heap.size + 1 + 1]? = some (.cells Z.toArray 25 (0, 0)) from by rw [← hWb]; exact ⟨blk_alloc HLA.out _, blk_alloc HZA.out _⟩)
              have HTW := Lib.hid (show Calls Tryd.prog 50 #[.slice (some ⟨wr.heap.size + 1, 0, none⟩) 2 2] Wb fun e w' => e = .returned (.agg (nums .u8 tw).toArray) ∧ Below Wb.heap.size Wb w' from by
                rw [← htw]
                have e1 := C_of_block (pre := []) (post := []) (k := .u8) (ys := lf) (o := 0) (t := 25) (fr := (0, 0)) (w := wr.alloc (.cells HC.toArray 25)) (b := w.heap.size + 1) (by rw [List.nil_append, List.append_nil, HLB2.out]; exact HLA.out) rfl (by rw [HLB.out.1]; decide)
                have e2 := C_of_block (pre := []) (post := []) (k := .u8) (ys := hh) (o := 0) (t := 25) (fr := (0, 0)) (w := wr.alloc (.cells HC.toArray 25)) (b := wr.heap.size) (by rw [List.nil_append, List.append_nil, HHB2.out]; exact HNA.out) rfl (by rw [HHB.out.1]; decide)
                have e3 := C_row2 (W := ((wr.alloc (.cells HC.toArray 25)).alloc (.cells #[.slice (some ⟨(w.heap.size + 1), 0, none⟩) lf.length 32, .slice (some ⟨wr.heap.size, 0, none⟩) hh.length 32] 33)).drew) (heap_alloc2_new wr _ _) (by rw [HLB.out.1]; exact Nat.le_refl _) (Kd.C_drew (Kd.C_alloc e1 _)) (by rw [HHB.out.1]; exact Nat.le_refl _) (Kd.C_drew (Kd.C_alloc e2 _))
                rw [HLB.out.1, HHB.out.1, hWb] at e3
                exact twice_calls _ 2 2 [lf, hh] Wb rfl e3 HYY.out HYL.out (by decide) (HK.out.below HBb.out (Nat.le_refl _)))
              have hbt := fun u => run_build2 (w.heap.size + 1) wr.heap.size u
              have hs := fun W g => slice_allH W g
              clear htw hWb HYY HYL
              go_wp2_with (first
                | ((with_reducible show wpList _ _ _ (Oper.mk _ (Op.load _ (.tmp 27)) _ _ _ _ :: _) _ _); (go_loud (refine wpList_load_mid rfl 25 (.tmp 27) rfl b (o + k * 32) rfl HC _ HRG.out HU.out rfl HIC.out.1 ?_)))
                | ((with_reducible show wpList _ _ _ (Oper.mk _ (Op.store _ (.tmp 10) _) _ _ _ _ :: _) _ _); (go_loud (refine wpl_store_new rfl 25 (.tmp 10) (.tmp 28) rfl Z.toArray HC.toArray rfl rfl HIC.out.2.1 HIC.out.2.2.1 HIC.out.2.2.2 ?_)))
                | ((with_reducible show wpList _ _ _ (Oper.mk _ (Op.load _ (.tmp 10)) _ _ _ _ :: _) _ _); (go_loud (refine wpList_load_row rfl 25 (.tmp 10) rfl wr.heap.size rfl 25 HC.toArray (0, 0) _ HNA.out HU.out rfl HIC.out.2.1 ?_)))
                | ((with_reducible show wpList _ _ _ (Oper.mk _ (Op.load _ (.tmp 3)) _ _ _ _ :: _) _ _); (go_loud (refine wpList_load_row rfl 25 (.tmp 3) rfl (w.heap.size + 1) rfl 25 LC.toArray (0, 0) _ HLA.out HU.out rfl HIL.out.1 ?_))))
              clear q0
              have hHeld : True := trivial
              refine wp_region_held (S := fun _ => True) (by kernel_rfl) ?_
              change wpAnyH _ _ _ _ _ _ _ _ (World.drew _)
              refine wpAnyH_take (i := 0) (oi := ({ dst := some 47, op := Op.slice 25 (Operand.tmp 3) none none none, type := 33, pos := "branch.go:55", after := #[], guard := none } : Oper)) (v := .slice (some ⟨(w.heap.size + 1), 0, none⟩) 32 32) rfl (by kernel_rfl) (by kernel_rfl) (by kernel_rfl) (fun _ _ _ h => h) (Or.inl ⟨by rfl, fun w hSw => by go_simp⟩) hHeld ?_
              simp only [Act.put, List.setIfInBounds_toArray, List.set_cons_zero, List.set_cons_succ]
              refine wpAnyH_take (i := 1) (oi := ({ dst := some 48, op := Op.slice 25 (Operand.tmp 10) none none none, type := 33, pos := "branch.go:55", after := #[], guard := none } : Oper)) (v := .slice (some ⟨wr.heap.size, 0, none⟩) 32 32) rfl (by kernel_rfl) (by kernel_rfl) (by kernel_rfl) (fun _ _ _ h => h) (Or.inl ⟨by rfl, fun w hSw => by go_simp⟩) hHeld ?_
              simp only [Act.put, List.setIfInBounds_toArray, List.set_cons_zero, List.set_cons_succ]
              refine wpAnyH_ready (rs := [2]) (by kernel_rfl) (by simp) ?_
              refine AllReadyH.cons (o := ({ dst := some 49, op := Op.buildSlice 62 2 #[(0, Operand.tmp 47), (1, Operand.tmp 48)], type := 62, pos := "branch.go:55", after := #[{ on := 0, ground := Ground.data }, { on := 1, ground := Ground.data }], guard := none } : Oper)) rfl (fun K hK => ?_) AllReadyH.nil
              go_simp
              rw [HWb.out]
              refine hK.out _ _ (trivial) (fun hHeld => ?_)
              clear hK K
              try simp only [Act.put, List.setIfInBounds_toArray, List.set_cons_zero, List.set_cons_succ]
              refine wpAnyH_ready (rs := [3]) (by kernel_rfl) (by simp) ?_
              refine AllReadyH.cons (o := ({ dst := some 50, op := Op.call { callee := Callee.value (Operand.func 50), args := #[Operand.tmp 49], argTypes := #[62] }, type := 25, pos := "branch.go:55", after := #[{ on := 2, ground := Ground.data }], guard := none } : Oper)) rfl (fun K hK => ?_) AllReadyH.nil
              go_simp
              (with_reducible refine HTW.out.mono ?_)
              rintro e w3 ⟨rfl, hb3⟩
              have HB3 := Lib.hid hb3
              clear hb3
              go_wp2_with fail
              refine hK.out _ _ (trivial) (fun hHeld => ?_)
              clear hK K
              try simp only [Act.put, List.setIfInBounds_toArray, List.set_cons_zero, List.set_cons_succ]
              have HL3 := Lib.hid ((HB3.out.block _ (blk_lt HNb.out.1)).trans HNb.out.1)
              have HZ3 := Lib.hid ((HB3.out.block _ (blk_lt HNb.out.2)).trans HNb.out.2)
              have HBW3 := Lib.hid (HBb.out.trans (Below.mono HB3.out HBb.out.size))
              refine wpAnyH_ready (rs := [4]) (by kernel_rfl) (by simp) ?_
              refine AllReadyH.cons (o := ({ dst := none, op := Op.store 25 (Operand.tmp 3) (Operand.tmp 50), type := 0, pos := "branch.go:55", after := #[{ on := 3, ground := Ground.data }, { on := 3, ground := Ground.chain }, { on := 0, ground := Ground.phase }, { on := 1, ground := Ground.phase }, { on := 2, ground := Ground.phase }, { on := 3, ground := Ground.phase }], guard := none } : Oper)) rfl (fun K hK => ?_) AllReadyH.nil
              rw [if_pos (by rfl)]
              refine wp_store_row 25 (.tmp 3) (.tmp 50) rfl (w.heap.size + 1) (nums .u8 tw).toArray (by rfl) (by rfl) 25 LC.toArray HL3.out HTI.out.1 HTI.out.2.1 HTI.out.2.2 ?_
              refine hK.out _ _ (trivial) (fun hHeld => ?_)
              clear hK K
              try simp only [Act.put, List.setIfInBounds_toArray, List.set_cons_zero, List.set_cons_succ]
              refine wpAnyH_done (by kernel_rfl) ?_ _
              clear hHeld hbt hs
              have HNEW := Lib.hid (show (w3.setRow (w.heap.size + 1) (nums .u8 tw).toArray).heap[w.heap.size + 1]? = some (.cells (nums .u8 tw).toArray 25 (0, 0)) ∧ (w3.setRow (w.heap.size + 1) (nums .u8 tw).toArray).heap[w.heap.size + 1 + 1]? = some (.cells Z.toArray 25 (0, 0)) ∧ Below w.heap.size w (w3.setRow (w.heap.size + 1) (nums .u8 tw).toArray) from ⟨setRow_heap _ _ _ _ _ _ HL3.out, (setRow_other _ _ _ _ (by omega)).trans HZ3.out, below_setRow HBW3.out (by omega) _⟩)
              obtain ⟨W5, hW5⟩ : ∃ W, w3.setRow (w.heap.size + 1) (nums .u8 tw).toArray = W := ⟨_, rfl⟩
              rw [hW5] at HNEW ⊢
              clear hW5
              have hwk : wrap64 ((k : Int) + 1) = ((k + 1 : Nat) : Int) := wrap64_succ (by have := HNUM.out; omega)
              go_wp2_with fail
              try rw [hwk]
              go_roundw
              case rel => exact ⟨k + 1, p / 2, (nn + 1) / 2, tw, by congr 1 <;> omega, by congr 1 <;> omega, by first | rfl | (congr 1 <;> omega), Lib.hid ⟨by have := HNUM.out; omega, HTL.out, HNEW.out.1, HNEW.out.2.1, HNEW.out.2.2, HEQ2.out⟩⟩
              case measure => have hq := HNUM.out; simp only [intOf]; omega
            · have bsm := Bool.eq_false_iff.2 sm
              rw [bsm] at q0
              have HNONE := Lib.hid (show up = (z32h, 15) from by
                have h := HEQ.out
                rw [if_pos (by simp [bev, bla, bsm])] at h
                have h2 := HVAL.out
                rw [← h] at h2
                exact h2)
              go_wp2_with (first
                | ((with_reducible show wpList _ _ _ (Oper.mk _ (Op.load _ (.tmp 27)) _ _ _ _ :: _) _ _); (go_loud (refine wpList_load_mid rfl 25 (.tmp 27) rfl b (o + k * 32) rfl HC _ HRG.out HU.out rfl HIC.out.1 ?_)))
                | ((with_reducible show wpList _ _ _ (Oper.mk _ (Op.store _ (.tmp 10) _) _ _ _ _ :: _) _ _); (go_loud (refine wpl_store_new rfl 25 (.tmp 10) (.tmp 28) rfl Z.toArray HC.toArray rfl rfl HIC.out.2.1 HIC.out.2.2.1 HIC.out.2.2.2 ?_)))
                | ((with_reducible show wpList _ _ _ (Oper.mk _ (Op.load _ (.tmp 10)) _ _ _ _ :: _) _ _); (go_loud (refine wpList_load_row rfl 25 (.tmp 10) rfl wr.heap.size rfl 25 HC.toArray (0, 0) _ HNA.out HU.out rfl HIC.out.2.1 ?_)))
                | ((with_reducible show wpList _ _ _ (Oper.mk _ (Op.load _ (.tmp 3)) _ _ _ _ :: _) _ _); (go_loud (refine wpList_load_row rfl 25 (.tmp 3) rfl (w.heap.size + 1) rfl 25 LC.toArray (0, 0) _ HLA.out HU.out rfl HIL.out.1 ?_)))
                | ((with_reducible show wpList _ _ _ (Oper.mk _ (Op.build _ _) _ _ _ _ :: _) _ _); (go_loud (refine wpl_build rfl 25 _ rfl #[] (by simp [Act.eval]) Z.toArray HBU.out ?_)))
                | ((with_reducible show wpList _ _ _ (Oper.mk _ (Op.store _ (.tmp 4) _) _ _ _ _ :: _) _ _); (go_loud (refine wpList_store_row rfl 25 (.tmp 4) (.tmp 43) rfl (w.heap.size + 1 + 1) Z.toArray rfl rfl 25 Z.toArray HZA.out HIZ.out.1 rfl HIZ.out.2 ?_))))
              have hval := HNONE.out
              subst hval
              have hze : (nums .u8 z32h).toArray = Z.toArray := by rw [HZZ.out.1]
              rw [hze]
              exact bodyPost_ret (results_ct rfl _ _ (w.heap.size + 1 + 1) 25 Z.toArray (0, 0) _ rfl (setRow_heap _ _ _ _ _ _ HZA.out) HU.out rfl HIZ.out.1) rfl ⟨rfl, below_setRow HBA.out (by omega) _⟩
          · have e2 : ((p : Int) == (nn : Int) - 1) = false := by rw [beq_eq_false_iff_ne]; omega
            have bla : (p == nn - 1) = false := by simpa using la
            clear la
            by_cases sm : (hh == lf) = true
            · rw [sm] at q0
              have HNONE := Lib.hid (show up = (z32h, 15) from by
                have h := HEQ.out
                rw [if_pos (by simp [bev, bla, sm])] at h
                have h2 := HVAL.out
                rw [← h] at h2
                exact h2)
              go_wp2_with (first
                | ((with_reducible show wpList _ _ _ (Oper.mk _ (Op.load _ (.tmp 27)) _ _ _ _ :: _) _ _); (go_loud (refine wpList_load_mid rfl 25 (.tmp 27) rfl b (o + k * 32) rfl HC _ HRG.out HU.out rfl HIC.out.1 ?_)))
                | ((with_reducible show wpList _ _ _ (Oper.mk _ (Op.store _ (.tmp 10) _) _ _ _ _ :: _) _ _); (go_loud (refine wpl_store_new rfl 25 (.tmp 10) (.tmp 28) rfl Z.toArray HC.toArray rfl rfl HIC.out.2.1 HIC.out.2.2.1 HIC.out.2.2.2 ?_)))
                | ((with_reducible show wpList _ _ _ (Oper.mk _ (Op.load _ (.tmp 10)) _ _ _ _ :: _) _ _); (go_loud (refine wpList_load_row rfl 25 (.tmp 10) rfl wr.heap.size rfl 25 HC.toArray (0, 0) _ HNA.out HU.out rfl HIC.out.2.1 ?_)))
                | ((with_reducible show wpList _ _ _ (Oper.mk _ (Op.load _ (.tmp 3)) _ _ _ _ :: _) _ _); (go_loud (refine wpList_load_row rfl 25 (.tmp 3) rfl (w.heap.size + 1) rfl 25 LC.toArray (0, 0) _ HLA.out HU.out rfl HIL.out.1 ?_)))
                | ((with_reducible show wpList _ _ _ (Oper.mk _ (Op.build _ _) _ _ _ _ :: _) _ _); (go_loud (refine wpl_build rfl 25 _ rfl #[] (by simp [Act.eval]) Z.toArray HBU.out ?_)))
                | ((with_reducible show wpList _ _ _ (Oper.mk _ (Op.store _ (.tmp 4) _) _ _ _ _ :: _) _ _); (go_loud (refine wpList_store_row rfl 25 (.tmp 4) (.tmp 43) rfl (w.heap.size + 1 + 1) Z.toArray rfl rfl 25 Z.toArray HZA.out HIZ.out.1 rfl HIZ.out.2 ?_))))
              have hval := HNONE.out
              subst hval
              have hze : (nums .u8 z32h).toArray = Z.toArray := by rw [HZZ.out.1]
              rw [hze]
              exact bodyPost_ret (results_ct rfl _ _ (w.heap.size + 1 + 1) 25 Z.toArray (0, 0) _ rfl (setRow_heap _ _ _ _ _ _ HZA.out) HU.out rfl HIZ.out.1) rfl ⟨rfl, below_setRow HBA.out (by omega) _⟩
            · have bsm := Bool.eq_false_iff.2 sm
              rw [bsm] at q0
              have HEQ2 := Lib.hid (show upF (xs.drop (k + 1)) (p / 2) ((nn + 1) / 2) (twiceP [lf, hh].flatten) = upF xs i q leaf from by
                have h := HEQ.out
                rw [if_neg (by simp [bev, bla, bsm]), if_pos ev] at h
                simpa using h)
              have HYY := Lib.hid (show ∀ ys ∈ [lf, hh], ∀ x ∈ ys, 0 ≤ x ∧ x < 256 from fun ys hy => by
                simp only [List.mem_cons, List.not_mem_nil, or_false] at hy
                rcases hy with rfl | rfl
                · exact HLB.out.2
                · exact HHB.out.2)
              have HYL := Lib.hid (show [lf, hh].flatten.length ≤ 900000 by simp [HLB.out.1, HHB.out.1])
              obtain ⟨tw, htw⟩ : ∃ x, twiceP ([lf, hh].flatten) = x := ⟨_, rfl⟩
              have HTL := Lib.hid (show tw.length = 32 ∧ ∀ x ∈ tw, 0 ≤ x ∧ x < 256 by rw [← htw]; exact ⟨twiceP_len _, twiceP_bytes _⟩)
              have HTI := Lib.hid (show (Tryd.prog.info? 25).map (·.size) = some (nums .u8 tw).toArray.size ∧ LC.toArray.size = (nums .u8 tw).toArray.size ∧ (nums .u8 tw).toArray.all (·.oneCell') = true from ⟨by rw [List.size_toArray, nums_len, HTL.out.1]; exact (zero_of_info infoHash).2, by rw [List.size_toArray, List.size_toArray, nums_len, HTL.out.1, HIL.out.2], all_oneCell_toArray (nums_one _ _)⟩)
              rw [htw] at HEQ2
              obtain ⟨Wb, hWb⟩ : ∃ W, ((wr.alloc (.cells HC.toArray 25)).alloc (.cells #[.slice (some ⟨(w.heap.size + 1), 0, none⟩) 32 32, .slice (some ⟨wr.heap.size, 0, none⟩) 32 32] 33)).drew = W := ⟨_, rfl⟩
              have HWb := Lib.hid hWb
              have HBb := Lib.hid (show Below w.heap.size w Wb by rw [← hWb]; exact below_drew (below_alloc HBA.out _))
              have HNb := Lib.hid (show Wb.heap[w.heap.size + 1]? = some (.cells LC.toArray 25 (0, 0)) ∧ Wb.heap[w.heap.size + 1 + 1]? = some (.cells Z.toArray 25 (0, 0)) from by rw [← hWb]; exact ⟨blk_alloc HLA.out _, blk_alloc HZA.out _⟩)
              have HTW := Lib.hid (show Calls Tryd.prog 50 #[.slice (some ⟨wr.heap.size + 1, 0, none⟩) 2 2] Wb fun e w' => e = .returned (.agg (nums .u8 tw).toArray) ∧ Below Wb.heap.size Wb w' from by
                rw [← htw]
                have e1 := C_of_block (pre := []) (post := []) (k := .u8) (ys := lf) (o := 0) (t := 25) (fr := (0, 0)) (w := wr.alloc (.cells HC.toArray 25)) (b := w.heap.size + 1) (by rw [List.nil_append, List.append_nil, HLB2.out]; exact HLA.out) rfl (by rw [HLB.out.1]; decide)
                have e2 := C_of_block (pre := []) (post := []) (k := .u8) (ys := hh) (o := 0) (t := 25) (fr := (0, 0)) (w := wr.alloc (.cells HC.toArray 25)) (b := wr.heap.size) (by rw [List.nil_append, List.append_nil, HHB2.out]; exact HNA.out) rfl (by rw [HHB.out.1]; decide)
                have e3 := C_row2 (W := ((wr.alloc (.cells HC.toArray 25)).alloc (.cells #[.slice (some ⟨(w.heap.size + 1), 0, none⟩) lf.length 32, .slice (some ⟨wr.heap.size, 0, none⟩) hh.length 32] 33)).drew) (heap_alloc2_new wr _ _) (by rw [HLB.out.1]; exact Nat.le_refl _) (Kd.C_drew (Kd.C_alloc e1 _)) (by rw [HHB.out.1]; exact Nat.le_refl _) (Kd.C_drew (Kd.C_alloc e2 _))
                rw [HLB.out.1, HHB.out.1, hWb] at e3
                exact twice_calls _ 2 2 [lf, hh] Wb rfl e3 HYY.out HYL.out (by decide) (HK.out.below HBb.out (Nat.le_refl _)))
              have hbt := fun u => run_build2 (w.heap.size + 1) wr.heap.size u
              have hs := fun W g => slice_allH W g
              clear htw hWb HYY HYL
              go_wp2_with (first
                | ((with_reducible show wpList _ _ _ (Oper.mk _ (Op.load _ (.tmp 27)) _ _ _ _ :: _) _ _); (go_loud (refine wpList_load_mid rfl 25 (.tmp 27) rfl b (o + k * 32) rfl HC _ HRG.out HU.out rfl HIC.out.1 ?_)))
                | ((with_reducible show wpList _ _ _ (Oper.mk _ (Op.store _ (.tmp 10) _) _ _ _ _ :: _) _ _); (go_loud (refine wpl_store_new rfl 25 (.tmp 10) (.tmp 28) rfl Z.toArray HC.toArray rfl rfl HIC.out.2.1 HIC.out.2.2.1 HIC.out.2.2.2 ?_)))
                | ((with_reducible show wpList _ _ _ (Oper.mk _ (Op.load _ (.tmp 10)) _ _ _ _ :: _) _ _); (go_loud (refine wpList_load_row rfl 25 (.tmp 10) rfl wr.heap.size rfl 25 HC.toArray (0, 0) _ HNA.out HU.out rfl HIC.out.2.1 ?_)))
                | ((with_reducible show wpList _ _ _ (Oper.mk _ (Op.load _ (.tmp 3)) _ _ _ _ :: _) _ _); (go_loud (refine wpList_load_row rfl 25 (.tmp 3) rfl (w.heap.size + 1) rfl 25 LC.toArray (0, 0) _ HLA.out HU.out rfl HIL.out.1 ?_))))
              clear q0
              have hHeld : True := trivial
              refine wp_region_held (S := fun _ => True) (by kernel_rfl) ?_
              change wpAnyH _ _ _ _ _ _ _ _ (World.drew _)
              refine wpAnyH_take (i := 0) (oi := ({ dst := some 47, op := Op.slice 25 (Operand.tmp 3) none none none, type := 33, pos := "branch.go:55", after := #[], guard := none } : Oper)) (v := .slice (some ⟨(w.heap.size + 1), 0, none⟩) 32 32) rfl (by kernel_rfl) (by kernel_rfl) (by kernel_rfl) (fun _ _ _ h => h) (Or.inl ⟨by rfl, fun w hSw => by go_simp⟩) hHeld ?_
              simp only [Act.put, List.setIfInBounds_toArray, List.set_cons_zero, List.set_cons_succ]
              refine wpAnyH_take (i := 1) (oi := ({ dst := some 48, op := Op.slice 25 (Operand.tmp 10) none none none, type := 33, pos := "branch.go:55", after := #[], guard := none } : Oper)) (v := .slice (some ⟨wr.heap.size, 0, none⟩) 32 32) rfl (by kernel_rfl) (by kernel_rfl) (by kernel_rfl) (fun _ _ _ h => h) (Or.inl ⟨by rfl, fun w hSw => by go_simp⟩) hHeld ?_
              simp only [Act.put, List.setIfInBounds_toArray, List.set_cons_zero, List.set_cons_succ]
              refine wpAnyH_ready (rs := [2]) (by kernel_rfl) (by simp) ?_
              refine AllReadyH.cons (o := ({ dst := some 49, op := Op.buildSlice 62 2 #[(0, Operand.tmp 47), (1, Operand.tmp 48)], type := 62, pos := "branch.go:55", after := #[{ on := 0, ground := Ground.data }, { on := 1, ground := Ground.data }], guard := none } : Oper)) rfl (fun K hK => ?_) AllReadyH.nil
              go_simp
              rw [HWb.out]
              refine hK.out _ _ (trivial) (fun hHeld => ?_)
              clear hK K
              try simp only [Act.put, List.setIfInBounds_toArray, List.set_cons_zero, List.set_cons_succ]
              refine wpAnyH_ready (rs := [3]) (by kernel_rfl) (by simp) ?_
              refine AllReadyH.cons (o := ({ dst := some 50, op := Op.call { callee := Callee.value (Operand.func 50), args := #[Operand.tmp 49], argTypes := #[62] }, type := 25, pos := "branch.go:55", after := #[{ on := 2, ground := Ground.data }], guard := none } : Oper)) rfl (fun K hK => ?_) AllReadyH.nil
              go_simp
              (with_reducible refine HTW.out.mono ?_)
              rintro e w3 ⟨rfl, hb3⟩
              have HB3 := Lib.hid hb3
              clear hb3
              go_wp2_with fail
              refine hK.out _ _ (trivial) (fun hHeld => ?_)
              clear hK K
              try simp only [Act.put, List.setIfInBounds_toArray, List.set_cons_zero, List.set_cons_succ]
              have HL3 := Lib.hid ((HB3.out.block _ (blk_lt HNb.out.1)).trans HNb.out.1)
              have HZ3 := Lib.hid ((HB3.out.block _ (blk_lt HNb.out.2)).trans HNb.out.2)
              have HBW3 := Lib.hid (HBb.out.trans (Below.mono HB3.out HBb.out.size))
              refine wpAnyH_ready (rs := [4]) (by kernel_rfl) (by simp) ?_
              refine AllReadyH.cons (o := ({ dst := none, op := Op.store 25 (Operand.tmp 3) (Operand.tmp 50), type := 0, pos := "branch.go:55", after := #[{ on := 3, ground := Ground.data }, { on := 3, ground := Ground.chain }, { on := 0, ground := Ground.phase }, { on := 1, ground := Ground.phase }, { on := 2, ground := Ground.phase }, { on := 3, ground := Ground.phase }], guard := none } : Oper)) rfl (fun K hK => ?_) AllReadyH.nil
              rw [if_pos (by rfl)]
              refine wp_store_row 25 (.tmp 3) (.tmp 50) rfl (w.heap.size + 1) (nums .u8 tw).toArray (by rfl) (by rfl) 25 LC.toArray HL3.out HTI.out.1 HTI.out.2.1 HTI.out.2.2 ?_
              refine hK.out _ _ (trivial) (fun hHeld => ?_)
              clear hK K
              try simp only [Act.put, List.setIfInBounds_toArray, List.set_cons_zero, List.set_cons_succ]
              refine wpAnyH_done (by kernel_rfl) ?_ _
              clear hHeld hbt hs
              have HNEW := Lib.hid (show (w3.setRow (w.heap.size + 1) (nums .u8 tw).toArray).heap[w.heap.size + 1]? = some (.cells (nums .u8 tw).toArray 25 (0, 0)) ∧ (w3.setRow (w.heap.size + 1) (nums .u8 tw).toArray).heap[w.heap.size + 1 + 1]? = some (.cells Z.toArray 25 (0, 0)) ∧ Below w.heap.size w (w3.setRow (w.heap.size + 1) (nums .u8 tw).toArray) from ⟨setRow_heap _ _ _ _ _ _ HL3.out, (setRow_other _ _ _ _ (by omega)).trans HZ3.out, below_setRow HBW3.out (by omega) _⟩)
              obtain ⟨W5, hW5⟩ : ∃ W, w3.setRow (w.heap.size + 1) (nums .u8 tw).toArray = W := ⟨_, rfl⟩
              rw [hW5] at HNEW ⊢
              clear hW5
              have hwk : wrap64 ((k : Int) + 1) = ((k + 1 : Nat) : Int) := wrap64_succ (by have := HNUM.out; omega)
              go_wp2_with fail
              try rw [hwk]
              go_roundw
              case rel => exact ⟨k + 1, p / 2, (nn + 1) / 2, tw, by congr 1 <;> omega, by congr 1 <;> omega, by first | rfl | (congr 1 <;> omega), Lib.hid ⟨by have := HNUM.out; omega, HTL.out, HNEW.out.1, HNEW.out.2.1, HNEW.out.2.2, HEQ2.out⟩⟩
              case measure => have hq := HNUM.out; simp only [intOf]; omega
        · have e1 : ¬ (p : Int) % 2 = 0 := by omega
          have bev : (p % 2 == 0) = false := by simpa using ev
          by_cases sm : (hh == lf) = true
          · rw [sm] at q0
            have HNONE := Lib.hid (show up = (z32h, 15) from by
              have h := HEQ.out
              rw [if_pos (by simp [bev, sm])] at h
              have h2 := HVAL.out
              rw [← h] at h2
              exact h2)
            go_wp2_with (first
              | ((with_reducible show wpList _ _ _ (Oper.mk _ (Op.load _ (.tmp 27)) _ _ _ _ :: _) _ _); (go_loud (refine wpList_load_mid rfl 25 (.tmp 27) rfl b (o + k * 32) rfl HC _ HRG.out HU.out rfl HIC.out.1 ?_)))
              | ((with_reducible show wpList _ _ _ (Oper.mk _ (Op.store _ (.tmp 10) _) _ _ _ _ :: _) _ _); (go_loud (refine wpl_store_new rfl 25 (.tmp 10) (.tmp 28) rfl Z.toArray HC.toArray rfl rfl HIC.out.2.1 HIC.out.2.2.1 HIC.out.2.2.2 ?_)))
              | ((with_reducible show wpList _ _ _ (Oper.mk _ (Op.load _ (.tmp 10)) _ _ _ _ :: _) _ _); (go_loud (refine wpList_load_row rfl 25 (.tmp 10) rfl wr.heap.size rfl 25 HC.toArray (0, 0) _ HNA.out HU.out rfl HIC.out.2.1 ?_)))
              | ((with_reducible show wpList _ _ _ (Oper.mk _ (Op.load _ (.tmp 3)) _ _ _ _ :: _) _ _); (go_loud (refine wpList_load_row rfl 25 (.tmp 3) rfl (w.heap.size + 1) rfl 25 LC.toArray (0, 0) _ HLA.out HU.out rfl HIL.out.1 ?_)))
              | ((with_reducible show wpList _ _ _ (Oper.mk _ (Op.build _ _) _ _ _ _ :: _) _ _); (go_loud (refine wpl_build rfl 25 _ rfl #[] (by simp [Act.eval]) Z.toArray HBU.out ?_)))
              | ((with_reducible show wpList _ _ _ (Oper.mk _ (Op.store _ (.tmp 4) _) _ _ _ _ :: _) _ _); (go_loud (refine wpList_store_row rfl 25 (.tmp 4) (.tmp 43) rfl (w.heap.size + 1 + 1) Z.toArray rfl rfl 25 Z.toArray HZA.out HIZ.out.1 rfl HIZ.out.2 ?_))))
            have hval := HNONE.out
            subst hval
            have hze : (nums .u8 z32h).toArray = Z.toArray := by rw [HZZ.out.1]
            rw [hze]
            exact bodyPost_ret (results_ct rfl _ _ (w.heap.size + 1 + 1) 25 Z.toArray (0, 0) _ rfl (setRow_heap _ _ _ _ _ _ HZA.out) HU.out rfl HIZ.out.1) rfl ⟨rfl, below_setRow HBA.out (by omega) _⟩
          · have bsm := Bool.eq_false_iff.2 sm
            rw [bsm] at q0
            have HEQ2 := Lib.hid (show upF (xs.drop (k + 1)) (p / 2) ((nn + 1) / 2) (twiceP [hh, lf].flatten) = upF xs i q leaf from by
              have h := HEQ.out
              rw [if_neg (by simp [bev, bsm]), if_neg ev] at h
              simpa using h)
            have HYY := Lib.hid (show ∀ ys ∈ [hh, lf], ∀ x ∈ ys, 0 ≤ x ∧ x < 256 from fun ys hy => by
              simp only [List.mem_cons, List.not_mem_nil, or_false] at hy
              rcases hy with rfl | rfl
              · exact HHB.out.2
              · exact HLB.out.2)
            have HYL := Lib.hid (show [hh, lf].flatten.length ≤ 900000 by simp [HLB.out.1, HHB.out.1])
            obtain ⟨tw, htw⟩ : ∃ x, twiceP ([hh, lf].flatten) = x := ⟨_, rfl⟩
            have HTL := Lib.hid (show tw.length = 32 ∧ ∀ x ∈ tw, 0 ≤ x ∧ x < 256 by rw [← htw]; exact ⟨twiceP_len _, twiceP_bytes _⟩)
            have HTI := Lib.hid (show (Tryd.prog.info? 25).map (·.size) = some (nums .u8 tw).toArray.size ∧ LC.toArray.size = (nums .u8 tw).toArray.size ∧ (nums .u8 tw).toArray.all (·.oneCell') = true from ⟨by rw [List.size_toArray, nums_len, HTL.out.1]; exact (zero_of_info infoHash).2, by rw [List.size_toArray, List.size_toArray, nums_len, HTL.out.1, HIL.out.2], all_oneCell_toArray (nums_one _ _)⟩)
            rw [htw] at HEQ2
            obtain ⟨Wb, hWb⟩ : ∃ W, ((wr.alloc (.cells HC.toArray 25)).alloc (.cells #[.slice (some ⟨wr.heap.size, 0, none⟩) 32 32, .slice (some ⟨(w.heap.size + 1), 0, none⟩) 32 32] 33)).drew = W := ⟨_, rfl⟩
            have HWb := Lib.hid hWb
            have HBb := Lib.hid (show Below w.heap.size w Wb by rw [← hWb]; exact below_drew (below_alloc HBA.out _))
            have HNb := Lib.hid (show Wb.heap[w.heap.size + 1]? = some (.cells LC.toArray 25 (0, 0)) ∧ Wb.heap[w.heap.size + 1 + 1]? = some (.cells Z.toArray 25 (0, 0)) from by rw [← hWb]; exact ⟨blk_alloc HLA.out _, blk_alloc HZA.out _⟩)
            have HTW := Lib.hid (show Calls Tryd.prog 50 #[.slice (some ⟨wr.heap.size + 1, 0, none⟩) 2 2] Wb fun e w' => e = .returned (.agg (nums .u8 tw).toArray) ∧ Below Wb.heap.size Wb w' from by
              rw [← htw]
              have e1 := C_of_block (pre := []) (post := []) (k := .u8) (ys := lf) (o := 0) (t := 25) (fr := (0, 0)) (w := wr.alloc (.cells HC.toArray 25)) (b := w.heap.size + 1) (by rw [List.nil_append, List.append_nil, HLB2.out]; exact HLA.out) rfl (by rw [HLB.out.1]; decide)
              have e2 := C_of_block (pre := []) (post := []) (k := .u8) (ys := hh) (o := 0) (t := 25) (fr := (0, 0)) (w := wr.alloc (.cells HC.toArray 25)) (b := wr.heap.size) (by rw [List.nil_append, List.append_nil, HHB2.out]; exact HNA.out) rfl (by rw [HHB.out.1]; decide)
              have e3 := C_row2 (W := ((wr.alloc (.cells HC.toArray 25)).alloc (.cells #[.slice (some ⟨wr.heap.size, 0, none⟩) hh.length 32, .slice (some ⟨(w.heap.size + 1), 0, none⟩) lf.length 32] 33)).drew) (heap_alloc2_new wr _ _) (by rw [HHB.out.1]; exact Nat.le_refl _) (Kd.C_drew (Kd.C_alloc e2 _)) (by rw [HLB.out.1]; exact Nat.le_refl _) (Kd.C_drew (Kd.C_alloc e1 _))
              rw [HLB.out.1, HHB.out.1, hWb] at e3
              exact twice_calls _ 2 2 [hh, lf] Wb rfl e3 HYY.out HYL.out (by decide) (HK.out.below HBb.out (Nat.le_refl _)))
            have hbt := fun u => run_build2 wr.heap.size (w.heap.size + 1) u
            have hs := fun W g => slice_allH W g
            clear htw hWb HYY HYL
            go_wp2_with (first
              | ((with_reducible show wpList _ _ _ (Oper.mk _ (Op.load _ (.tmp 27)) _ _ _ _ :: _) _ _); (go_loud (refine wpList_load_mid rfl 25 (.tmp 27) rfl b (o + k * 32) rfl HC _ HRG.out HU.out rfl HIC.out.1 ?_)))
              | ((with_reducible show wpList _ _ _ (Oper.mk _ (Op.store _ (.tmp 10) _) _ _ _ _ :: _) _ _); (go_loud (refine wpl_store_new rfl 25 (.tmp 10) (.tmp 28) rfl Z.toArray HC.toArray rfl rfl HIC.out.2.1 HIC.out.2.2.1 HIC.out.2.2.2 ?_)))
              | ((with_reducible show wpList _ _ _ (Oper.mk _ (Op.load _ (.tmp 10)) _ _ _ _ :: _) _ _); (go_loud (refine wpList_load_row rfl 25 (.tmp 10) rfl wr.heap.size rfl 25 HC.toArray (0, 0) _ HNA.out HU.out rfl HIC.out.2.1 ?_)))
              | ((with_reducible show wpList _ _ _ (Oper.mk _ (Op.load _ (.tmp 3)) _ _ _ _ :: _) _ _); (go_loud (refine wpList_load_row rfl 25 (.tmp 3) rfl (w.heap.size + 1) rfl 25 LC.toArray (0, 0) _ HLA.out HU.out rfl HIL.out.1 ?_))))
            clear q0
            have hHeld : True := trivial
            refine wp_region_held (S := fun _ => True) (by kernel_rfl) ?_
            change wpAnyH _ _ _ _ _ _ _ _ (World.drew _)
            refine wpAnyH_take (i := 0) (oi := ({ dst := some 51, op := Op.slice 25 (Operand.tmp 10) none none none, type := 33, pos := "branch.go:57", after := #[], guard := none } : Oper)) (v := .slice (some ⟨wr.heap.size, 0, none⟩) 32 32) rfl (by kernel_rfl) (by kernel_rfl) (by kernel_rfl) (fun _ _ _ h => h) (Or.inl ⟨by rfl, fun w hSw => by go_simp⟩) hHeld ?_
            simp only [Act.put, List.setIfInBounds_toArray, List.set_cons_zero, List.set_cons_succ]
            refine wpAnyH_take (i := 1) (oi := ({ dst := some 52, op := Op.slice 25 (Operand.tmp 3) none none none, type := 33, pos := "branch.go:57", after := #[], guard := none } : Oper)) (v := .slice (some ⟨(w.heap.size + 1), 0, none⟩) 32 32) rfl (by kernel_rfl) (by kernel_rfl) (by kernel_rfl) (fun _ _ _ h => h) (Or.inl ⟨by rfl, fun w hSw => by go_simp⟩) hHeld ?_
            simp only [Act.put, List.setIfInBounds_toArray, List.set_cons_zero, List.set_cons_succ]
            refine wpAnyH_ready (rs := [2]) (by kernel_rfl) (by simp) ?_
            refine AllReadyH.cons (o := ({ dst := some 53, op := Op.buildSlice 62 2 #[(0, Operand.tmp 51), (1, Operand.tmp 52)], type := 62, pos := "branch.go:57", after := #[{ on := 0, ground := Ground.data }, { on := 1, ground := Ground.data }], guard := none } : Oper)) rfl (fun K hK => ?_) AllReadyH.nil
            go_simp
            rw [HWb.out]
            refine hK.out _ _ (trivial) (fun hHeld => ?_)
            clear hK K
            try simp only [Act.put, List.setIfInBounds_toArray, List.set_cons_zero, List.set_cons_succ]
            refine wpAnyH_ready (rs := [3]) (by kernel_rfl) (by simp) ?_
            refine AllReadyH.cons (o := ({ dst := some 54, op := Op.call { callee := Callee.value (Operand.func 50), args := #[Operand.tmp 53], argTypes := #[62] }, type := 25, pos := "branch.go:57", after := #[{ on := 2, ground := Ground.data }], guard := none } : Oper)) rfl (fun K hK => ?_) AllReadyH.nil
            go_simp
            (with_reducible refine HTW.out.mono ?_)
            rintro e w3 ⟨rfl, hb3⟩
            have HB3 := Lib.hid hb3
            clear hb3
            go_wp2_with fail
            refine hK.out _ _ (trivial) (fun hHeld => ?_)
            clear hK K
            try simp only [Act.put, List.setIfInBounds_toArray, List.set_cons_zero, List.set_cons_succ]
            have HL3 := Lib.hid ((HB3.out.block _ (blk_lt HNb.out.1)).trans HNb.out.1)
            have HZ3 := Lib.hid ((HB3.out.block _ (blk_lt HNb.out.2)).trans HNb.out.2)
            have HBW3 := Lib.hid (HBb.out.trans (Below.mono HB3.out HBb.out.size))
            refine wpAnyH_ready (rs := [4]) (by kernel_rfl) (by simp) ?_
            refine AllReadyH.cons (o := ({ dst := none, op := Op.store 25 (Operand.tmp 3) (Operand.tmp 54), type := 0, pos := "branch.go:57", after := #[{ on := 3, ground := Ground.data }, { on := 3, ground := Ground.chain }, { on := 0, ground := Ground.phase }, { on := 1, ground := Ground.phase }, { on := 2, ground := Ground.phase }, { on := 3, ground := Ground.phase }], guard := none } : Oper)) rfl (fun K hK => ?_) AllReadyH.nil
            rw [if_pos (by rfl)]
            refine wp_store_row 25 (.tmp 3) (.tmp 54) rfl (w.heap.size + 1) (nums .u8 tw).toArray (by rfl) (by rfl) 25 LC.toArray HL3.out HTI.out.1 HTI.out.2.1 HTI.out.2.2 ?_
            refine hK.out _ _ (trivial) (fun hHeld => ?_)
            clear hK K
            try simp only [Act.put, List.setIfInBounds_toArray, List.set_cons_zero, List.set_cons_succ]
            refine wpAnyH_done (by kernel_rfl) ?_ _
            clear hHeld hbt hs
            have HNEW := Lib.hid (show (w3.setRow (w.heap.size + 1) (nums .u8 tw).toArray).heap[w.heap.size + 1]? = some (.cells (nums .u8 tw).toArray 25 (0, 0)) ∧ (w3.setRow (w.heap.size + 1) (nums .u8 tw).toArray).heap[w.heap.size + 1 + 1]? = some (.cells Z.toArray 25 (0, 0)) ∧ Below w.heap.size w (w3.setRow (w.heap.size + 1) (nums .u8 tw).toArray) from ⟨setRow_heap _ _ _ _ _ _ HL3.out, (setRow_other _ _ _ _ (by omega)).trans HZ3.out, below_setRow HBW3.out (by omega) _⟩)
            obtain ⟨W5, hW5⟩ : ∃ W, w3.setRow (w.heap.size + 1) (nums .u8 tw).toArray = W := ⟨_, rfl⟩
            rw [hW5] at HNEW ⊢
            clear hW5
            have hwk : wrap64 ((k : Int) + 1) = ((k + 1 : Nat) : Int) := wrap64_succ (by have := HNUM.out; omega)
            go_wp2_with fail
            try rw [hwk]
            go_roundw
            case rel => exact ⟨k + 1, p / 2, (nn + 1) / 2, tw, by congr 1 <;> omega, by congr 1 <;> omega, by first | rfl | (congr 1 <;> omega), Lib.hid ⟨by have := HNUM.out; omega, HTL.out, HNEW.out.1, HNEW.out.2.1, HNEW.out.2.2, HEQ2.out⟩⟩
            case measure => have hq := HNUM.out; simp only [intOf]; omega
      · have hn0 : xs.length ≤ k := by rw [← HM.out]; omega
        rw [upF_nil hn0] at heq
        have hval : up = (lf, 0) := by rw [HVAL.out, ← heq]
        have hLl : (nums .u8 lf).length = 32 := by rw [nums_len]; exact hlf.1
        have hLo := nums_one .u8 lf
        subst hval
        have HLa := Lib.hid hLa
        have HZa := Lib.hid hZa
        have HB := Lib.hid hB
        have HIL := Lib.hid (show (Tryd.prog.info? 25).map (·.size) = some (nums .u8 lf).toArray.size ∧ Z.toArray.size = (nums .u8 lf).toArray.size ∧ (nums .u8 lf).toArray.all (·.oneCell') = true from ⟨by rw [List.size_toArray, hLl]; exact (zero_of_info infoHash).2, by rw [List.size_toArray, List.size_toArray, hLl, HZZ.out.2], all_oneCell_toArray hLo⟩)
        have g6 : ¬ (k : Int) < (m : Int) := by omega
        clear hLa hZa hB heq hLl hLo hn0 hlf H
        go_wp2_with (first
          | ((with_reducible show wpList _ _ _ (Oper.mk _ (Op.load _ (.tmp 3)) _ _ _ _ :: _) _ _); (go_loud (refine wpList_load_row rfl 25 (.tmp 3) rfl (w.heap.size + 1) rfl 25 (nums .u8 lf).toArray (0, 0) _ HLa.out HU.out rfl HIL.out.1 ?_)))
          | ((with_reducible show wpList _ _ _ (Oper.mk _ (Op.store _ (.tmp 4) _) _ _ _ _ :: _) _ _); (go_loud (refine wpList_store_row rfl 25 (.tmp 4) (.tmp 61) rfl (w.heap.size + 1 + 1) (nums .u8 lf).toArray rfl rfl 25 Z.toArray HZa.out HIL.out.1 HIL.out.2.1 HIL.out.2.2 ?_))))
        exact bodyPost_ret (results_ct rfl _ _ (w.heap.size + 1 + 1) 25 (nums .u8 lf).toArray (0, 0) _ rfl (setRow_heap _ _ _ _ _ _ HZa.out) HU.out rfl HIL.out.1) rfl ⟨rfl, below_setRow HB.out (by omega) _⟩
  · go_enter Tryd.func34, Tryd.ntmps34
    go_wp2_with ((with_reducible show wpList _ _ _ (Oper.mk _ (Op.load _ (.tmp 2)) _ _ _ _ :: _) _ _); rw [HW0.out]; (go_loud (refine wpList_load_row rfl 41 (.tmp 2) rfl w.heap.size rfl 41 #[.int .i64 cnt, .int .i64 idx, .slice A m c] (0, 0) _ HA0.out HUB.out rfl infoB ?_)))
    refine (HRI.out _).mono ?_
    rintro e w1 ⟨rfl, hb1⟩
    have HB1 := Lib.hid (HB0.out.trans (Below.mono hb1 HB0.out.size))
    have HZ1 := Lib.hid ((hb1.block _ (blk_lt HLZ0.out.2)).trans HLZ0.out.2)
    clear hb1
    go_wp2_with (first
      | ((with_reducible show wpList _ _ _ (Oper.mk _ (Op.build _ _) _ _ _ _ :: _) _ _); (go_loud (refine wpl_build rfl 25 _ rfl #[] (by simp [Act.eval]) Z.toArray HBU.out ?_)))
      | ((with_reducible show wpList _ _ _ (Oper.mk _ (Op.store _ _ _) _ _ _ _ :: _) _ _); (go_loud (refine wpList_store_row rfl 25 (.tmp 4) (.tmp 16) rfl (w.heap.size + 1 + 1) Z.toArray rfl rfl 25 Z.toArray HZ1.out HIZ.out.1 rfl HIZ.out.2 ?_))))
    have hval : up = (z32h, e0) := by rw [← HUP.out]; unfold upP; rw [← HM.out, HE0.out, if_pos hok]
    subst hval
    have hze : (nums .u8 z32h).toArray = Z.toArray := by rw [HZZ.out.1]
    rw [hze]
    exact bodyPost_ret (results_ct rfl _ _ (w.heap.size + 1 + 1) 25 Z.toArray (0, 0) _ rfl (setRow_heap _ _ _ _ _ _ HZ1.out) HU.out rfl HIZ.out.1) rfl ⟨rfl, below_setRow HB1.out (by omega) _⟩
end Go.Proofs.YtlmcdkjobdcflaaDoor.Hand

/- Does a branch lead to a root: the plain form, and walked. -/
namespace Go.Proofs.YtlmcdkjobdcflaaDoor.Hand
open Go Go.RowKit Go.Proofs.YtlmcdkjobdcflaaDoor.Plain Go.Proofs.YtlmcdkjobdcflaaDoor.PAll Go.Proofs.YtlmcdkjobdcflaaDoorW.PrintWords Go.Proofs.YtlmcdkjobdcflaaDoorW.PrintLast Go.Proofs.YtlmcdkjobdcflaaDoorW.PrintMore
set_option linter.unusedVariables false
set_option linter.unusedSimpArgs false
set_option maxRecDepth 100000
attribute [local go_sem ↓] Go.wp_at_zero Go.wp_at_succ
attribute [-go_sem] loadVar storeVar Instr.buildSlice
theorem upF_hash : ∀ (xs : List (List Int)) (p n : Nat) (leaf x : List Int), (leaf.length = 32 ∧ ∀ y ∈ leaf, 0 ≤ y ∧ y < 256) → upF xs p n leaf = some x → x.length = 32 ∧ ∀ y ∈ x, 0 ≤ y ∧ y < 256
  | [], p, n, leaf, x, h, e => by
    rw [upF] at e
    injection e with e
    exact e ▸ h
  | y :: xs, p, n, leaf, x, h, e => by
    rw [upF] at e
    split at e
    · cases e
    · refine upF_hash xs _ _ _ x ?_ e
      split
      · exact ⟨twiceP_len _, twiceP_bytes _⟩
      · exact ⟨twiceP_len _, twiceP_bytes _⟩
theorem upP_hash (cnt idx : Int) (xs : List (List Int)) {leaf : List Int} (h : leaf.length = 32 ∧ ∀ y ∈ leaf, 0 ≤ y ∧ y < 256) : (upP cnt idx xs leaf).1.length = 32 ∧ ∀ y ∈ (upP cnt idx xs leaf).1, 0 ≤ y ∧ y < 256 := by
  unfold upP
  split
  · exact z32h_hash
  · cases hu : upF xs idx.toNat cnt.toNat leaf with
    | none => exact z32h_hash
    | some x => exact upF_hash _ _ _ _ x h hu
def checkP (cnt idx : Int) (xs : List (List Int)) (root leaf : List Int) : Int := if (upP cnt idx xs leaf).2 = 0 then (if ((upP cnt idx xs leaf).1 == root) = true then 0 else 15) else (upP cnt idx xs leaf).2
set_option maxHeartbeats 4000000 in
theorem check_calls (cnt idx : Int) (A : Option Addr) (m c : Nat) (xs : List (List Int)) (root leaf : List Int) (w : World) (hm : m = xs.length) (hr : Kd.C kH w A m xs) (hc : m ≤ c) (hH : Hs xs) (hr32 : root.length = 32) (hl32 : leaf.length = 32) (hlb : ∀ x ∈ leaf, 0 ≤ x ∧ x < 256) (hK : KT w)
    (h0 : -9223372036854775808 ≤ cnt) (h1 : cnt ≤ 9223372036854775807) :
    Calls Tryd.prog 33 #[bV cnt idx A m c, .agg (nums .u8 root).toArray, .agg (nums .u8 leaf).toArray] w fun e w' => e = .returned (.int .i64 (checkP cnt idx xs root leaf)) ∧ Below w.heap.size w w' := by
  have hmx := Kd.C_max hr
  have HHZ := (zero_of_info infoHash).1
  have HUP := Lib.hid (fun (u : World) (hu : Below w.heap.size w u) => up_calls cnt idx A m c xs leaf u hm (Kd.C_below hr hu) hc hH hl32 hlb (hK.below hu (Nat.le_refl _)) h0 h1)
  obtain ⟨tp, htp⟩ : ∃ x, upP cnt idx xs leaf = x := ⟨_, rfl⟩
  have hth := upP_hash cnt idx xs ⟨hl32, hlb⟩
  have hv : checkP cnt idx xs root leaf = if tp.2 = 0 then (if (tp.1 == root) = true then 0 else 15) else tp.2 := by unfold checkP; rw [htp]
  rw [htp] at HUP hth
  rw [hv]
  obtain ⟨T, E⟩ := tp
  simp only at HUP hth hv ⊢
  have q0 := fun u => eqH T root hth.1 hr32 u
  have hTl : (nums .u8 T).length = 32 := by rw [nums_len]; exact hth.1
  have hRl : (nums .u8 root).length = 32 := by rw [nums_len]; exact hr32
  have hLl : (nums .u8 leaf).length = 32 := by rw [nums_len]; exact hl32
  have hT1 := nums_one .u8 T
  obtain ⟨TC, hTC⟩ : ∃ x, nums .u8 T = x := ⟨_, rfl⟩
  obtain ⟨R, hR⟩ : ∃ x, nums .u8 root = x := ⟨_, rfl⟩
  obtain ⟨L, hL⟩ : ∃ x, nums .u8 leaf = x := ⟨_, rfl⟩
  rw [hTC] at hTl hT1 q0 HUP
  rw [hR] at hRl q0 ⊢
  rw [hL] at hLl HUP ⊢
  obtain ⟨Z, hZ⟩ : ∃ x, nums .u8 (List.replicate 32 0) = x := ⟨_, rfl⟩
  rw [hZ] at HHZ
  have hZl : Z.length = 32 := by rw [← hZ]; rfl
  have hi : ∀ X : List Value, X.length = 32 → (Tryd.prog.info? 25).map (·.size) = some X.toArray.size := fun X h => by rw [List.size_toArray, h]; exact (zero_of_info infoHash).2
  have HI := Lib.hid (And.intro (hi TC hTl) (And.intro (hi R hRl) (And.intro (hi L hLl) (And.intro (show Z.toArray.size = TC.toArray.size by rw [List.size_toArray, List.size_toArray, hTl, hZl]) (all_oneCell_toArray hT1)))))
  have HU := Lib.hid Tryd.underlying25
  have HUB := Lib.hid Tryd.underlying41
  obtain ⟨hA0, hR0, hL0⟩ := alloc3 w (.cells #[.int .i64 cnt, .int .i64 idx, .slice A m c] 41) (.cells R.toArray 25) (.cells L.toArray 25)
  have HB0 := Lib.hid (below_alloc (below_alloc (below_alloc (Below.refl w.heap.size w) (.cells #[.int .i64 cnt, .int .i64 idx, .slice A m c] 41)) (.cells R.toArray 25)) (.cells L.toArray 25))
  obtain ⟨W0, hW0⟩ : ∃ W0, ((w.alloc (.cells #[.int .i64 cnt, .int .i64 idx, .slice A m c] 41)).alloc (.cells R.toArray 25)).alloc (.cells L.toArray 25) = W0 := ⟨_, rfl⟩
  rw [hW0] at hA0 hR0 hL0 HB0
  have HBK := Lib.hid (And.intro hA0 (And.intro hR0 hL0))
  have HW0 := Lib.hid hW0
  unfold bV at HUP ⊢
  clear hA0 hR0 hL0 hW0 hm hr hH hr32 hl32 hlb hK htp hth hTl hRl hLl hT1 hTC hR hL hZ hZl hi hv h0 h1
  by_cases he : E = 0
  · subst he
    rw [if_pos rfl]
    by_cases sm : (T == root) = true
    · rw [sm] at q0
      rw [if_pos sm]
      clear sm
      go_enter Tryd.func33, Tryd.ntmps33
      go_wp2_with (first
        | ((with_reducible show wpList _ _ _ (Oper.mk _ (Op.load _ (.tmp 3)) _ _ _ _ :: _) _ _); rw [HW0.out]; (go_loud (refine wpList_load_row rfl 41 (.tmp 3) rfl w.heap.size rfl 41 #[.int .i64 cnt, .int .i64 idx, .slice A m c] (0, 0) _ HBK.out.1 HUB.out rfl infoB ?_)))
        | ((with_reducible show wpList _ _ _ (Oper.mk _ (Op.load _ (.tmp 5)) _ _ _ _ :: _) _ _); (go_loud (refine wpList_load_row rfl 25 (.tmp 5) rfl (w.heap.size + 1 + 1) rfl 25 L.toArray (0, 0) _ HBK.out.2.2 HU.out rfl HI.out.2.2.1 ?_))))
      refine (HUP.out _ HB0.out).mono ?_
      rintro e w1 ⟨rfl, hb1⟩
      have HB1 := Lib.hid (below_alloc (HB0.out.trans (Below.mono hb1 HB0.out.size)) (.cells TC.toArray 25))
      have hR1 := (hb1.block _ (blk_lt HBK.out.2.1)).trans HBK.out.2.1
      have hld1 := run_loadVar_row (P := Tryd.prog) (w1.alloc (.cells TC.toArray 25)) w1.heap.size 25 25 TC.toArray (0, 0) _ (heap_alloc_new w1 _) HU.out rfl HI.out.1
      have hld2 := run_loadVar_row (P := Tryd.prog) (w1.alloc (.cells TC.toArray 25)) (w.heap.size + 1) 25 25 R.toArray (0, 0) _ (blk_alloc hR1 _) HU.out rfl HI.out.2.1
      clear hb1 hR1
      go_wp2_with ((with_reducible show wpList _ _ _ (Oper.mk _ (Op.store _ (.tmp 7) _) _ _ _ _ :: _) _ _); (go_loud (refine wpl_store_new rfl 25 (.tmp 7) (.tmp 13) rfl Z.toArray TC.toArray rfl rfl HI.out.1 HI.out.2.2.2.1 HI.out.2.2.2.2 ?_)))
      go_ret
      exact ⟨rfl, HB1.out⟩
    · rw [Bool.eq_false_iff.2 sm] at q0
      rw [if_neg sm]
      clear sm
      go_enter Tryd.func33, Tryd.ntmps33
      go_wp2_with (first
        | ((with_reducible show wpList _ _ _ (Oper.mk _ (Op.load _ (.tmp 3)) _ _ _ _ :: _) _ _); rw [HW0.out]; (go_loud (refine wpList_load_row rfl 41 (.tmp 3) rfl w.heap.size rfl 41 #[.int .i64 cnt, .int .i64 idx, .slice A m c] (0, 0) _ HBK.out.1 HUB.out rfl infoB ?_)))
        | ((with_reducible show wpList _ _ _ (Oper.mk _ (Op.load _ (.tmp 5)) _ _ _ _ :: _) _ _); (go_loud (refine wpList_load_row rfl 25 (.tmp 5) rfl (w.heap.size + 1 + 1) rfl 25 L.toArray (0, 0) _ HBK.out.2.2 HU.out rfl HI.out.2.2.1 ?_))))
      refine (HUP.out _ HB0.out).mono ?_
      rintro e w1 ⟨rfl, hb1⟩
      have HB1 := Lib.hid (below_alloc (HB0.out.trans (Below.mono hb1 HB0.out.size)) (.cells TC.toArray 25))
      have hR1 := (hb1.block _ (blk_lt HBK.out.2.1)).trans HBK.out.2.1
      have hld1 := run_loadVar_row (P := Tryd.prog) (w1.alloc (.cells TC.toArray 25)) w1.heap.size 25 25 TC.toArray (0, 0) _ (heap_alloc_new w1 _) HU.out rfl HI.out.1
      have hld2 := run_loadVar_row (P := Tryd.prog) (w1.alloc (.cells TC.toArray 25)) (w.heap.size + 1) 25 25 R.toArray (0, 0) _ (blk_alloc hR1 _) HU.out rfl HI.out.2.1
      clear hb1 hR1
      go_wp2_with ((with_reducible show wpList _ _ _ (Oper.mk _ (Op.store _ (.tmp 7) _) _ _ _ _ :: _) _ _); (go_loud (refine wpl_store_new rfl 25 (.tmp 7) (.tmp 13) rfl Z.toArray TC.toArray rfl rfl HI.out.1 HI.out.2.2.2.1 HI.out.2.2.2.2 ?_)))
      go_ret
      exact ⟨rfl, HB1.out⟩
  · rw [if_neg he]
    go_enter Tryd.func33, Tryd.ntmps33
    go_wp2_with (first
      | ((with_reducible show wpList _ _ _ (Oper.mk _ (Op.load _ (.tmp 3)) _ _ _ _ :: _) _ _); rw [HW0.out]; (go_loud (refine wpList_load_row rfl 41 (.tmp 3) rfl w.heap.size rfl 41 #[.int .i64 cnt, .int .i64 idx, .slice A m c] (0, 0) _ HBK.out.1 HUB.out rfl infoB ?_)))
      | ((with_reducible show wpList _ _ _ (Oper.mk _ (Op.load _ (.tmp 5)) _ _ _ _ :: _) _ _); (go_loud (refine wpList_load_row rfl 25 (.tmp 5) rfl (w.heap.size + 1 + 1) rfl 25 L.toArray (0, 0) _ HBK.out.2.2 HU.out rfl HI.out.2.2.1 ?_))))
    refine (HUP.out _ HB0.out).mono ?_
    rintro e w1 ⟨rfl, hb1⟩
    have HB1 := Lib.hid (below_alloc (HB0.out.trans (Below.mono hb1 HB0.out.size)) (.cells TC.toArray 25))
    have hR1 := (hb1.block _ (blk_lt HBK.out.2.1)).trans HBK.out.2.1
    have hld1 := run_loadVar_row (P := Tryd.prog) (w1.alloc (.cells TC.toArray 25)) w1.heap.size 25 25 TC.toArray (0, 0) _ (heap_alloc_new w1 _) HU.out rfl HI.out.1
    have hld2 := run_loadVar_row (P := Tryd.prog) (w1.alloc (.cells TC.toArray 25)) (w.heap.size + 1) 25 25 R.toArray (0, 0) _ (blk_alloc hR1 _) HU.out rfl HI.out.2.1
    clear hb1 hR1
    go_wp2_with ((with_reducible show wpList _ _ _ (Oper.mk _ (Op.store _ (.tmp 7) _) _ _ _ _ :: _) _ _); (go_loud (refine wpl_store_new rfl 25 (.tmp 7) (.tmp 13) rfl Z.toArray TC.toArray rfl rfl HI.out.1 HI.out.2.2.2.1 HI.out.2.2.2.2 ?_)))
    go_ret
    exact ⟨rfl, HB1.out⟩
end Go.Proofs.YtlmcdkjobdcflaaDoor.Hand

/- The law's Ref of a branch: walked. -/
namespace Go.Proofs.YtlmcdkjobdcflaaDoor.Hand
open Go Go.RowKit Go.Proofs.YtlmcdkjobdcflaaDoor.Plain Go.Proofs.YtlmcdkjobdcflaaDoor.PAll Go.Proofs.YtlmcdkjobdcflaaDoorW.PrintWords Go.Proofs.YtlmcdkjobdcflaaDoorW.PrintLast Go.Proofs.YtlmcdkjobdcflaaDoorW.PrintMore
set_option linter.unusedVariables false
set_option linter.unusedSimpArgs false
set_option maxRecDepth 100000
attribute [local go_sem ↓] Go.wp_at_zero Go.wp_at_succ
attribute [-go_sem] loadVar storeVar Instr.buildSlice
theorem infoR9 : (Tryd.prog.info? 46).map (fun i => (i.zero, i.size)) = some (some (.agg #[.int .i64 0, .int .i64 0, .slice none 0 0]), 3) := by kernel_rfl
theorem built_ref9 (cnt idx : Int) (A : Option Addr) (m c : Nat) : Tryd.prog.built 46 [(0, .int .i64 cnt), (1, .int .i64 idx), (2, .slice A m c)] = some #[.int .i64 cnt, .int .i64 idx, .slice A m c] := by kernel_rfl
theorem C_setRow {w : World} {g : Nat} {cs : Array Value} {A : Option Addr} {xs : List (List Int)} (hC : Kd.C kH w A xs.length xs) (h32 : ∀ p ∈ xs, p.length = 32) (h : ∀ b o, A = some ⟨b, o, none⟩ → b ≠ g) : Kd.C kH (w.setRow g cs) A xs.length xs := by
  by_cases h0 : xs.length = 0
  · exact ⟨rfl, Kd.C_max hC, fun hp => absurd hp (by omega)⟩
  · obtain ⟨b, o, rfl, hb, hrg⟩ := C_hash hC (by omega)
    have hne := h b o rfl
    refine C_of_ranges (fun i hi j v hj => ?_) h32 (Kd.C_max hC)
    have h1 := (hrg i hi).1 j v hj
    have h2 : (w.setRow g cs).heap[b]? = w.heap[b]? := setRow_other _ _ _ _ hne
    unfold World.cell? at h1 ⊢
    rw [h2]
    exact h1
set_option maxHeartbeats 4000000 in
theorem lref9_calls (cnt idx : Int) (A : Option Addr) (m c : Nat) (xs : List (List Int)) (w : World) (hm : m = xs.length) (hr : Kd.C kH w A m xs) (hc : m ≤ c) (hl : m ≤ 100000) (hH : Hs xs) :
    Calls Tryd.prog 36 #[bV cnt idx A m c] w fun e w' => ∃ A2 c2, e = .returned (bV cnt idx A2 m c2) ∧ m ≤ c2 ∧ Kd.C kH w' A2 m xs ∧ Below w.heap.size w w' := by
  have hz := (zero_of_info infoR9).1
  have HRF := Lib.hid (fun (u : World) (hu : Below w.heap.size w u) => refs9_calls A m c xs u hm (Kd.C_below hr hu) hc hl hH)
  have HM := Lib.hid hm
  have HH := Lib.hid (And.intro True.intro (fun p hp => (hH p hp).1 : ∀ p ∈ xs, p.length = 32))
  have hA0 := heap_alloc2_old w (.cells #[.int .i64 cnt, .int .i64 idx, .slice A m c] 41) (.cells #[.int .i64 0, .int .i64 0, .slice none 0 0] 46)
  have hZ0 := heap_alloc2_new w (.cells #[.int .i64 cnt, .int .i64 idx, .slice A m c] 41) (.cells #[.int .i64 0, .int .i64 0, .slice none 0 0] 46)
  have HB0 := Lib.hid (below_alloc (below_alloc (Below.refl w.heap.size w) (.cells #[.int .i64 cnt, .int .i64 idx, .slice A m c] 41)) (.cells #[.int .i64 0, .int .i64 0, .slice none 0 0] 46))
  obtain ⟨W0, hW0⟩ : ∃ W0, (w.alloc (.cells #[.int .i64 cnt, .int .i64 idx, .slice A m c] 41)).alloc (.cells #[.int .i64 0, .int .i64 0, .slice none 0 0] 46) = W0 := ⟨_, rfl⟩
  rw [hW0] at hA0 hZ0 HB0
  have HZ0 := Lib.hid hZ0
  have HA0 := Lib.hid hA0
  have HS := Lib.hid (show ∀ u : World, Below W0.heap.size W0 u → (loadVar 3 ⟨w.heap.size, 0, none⟩).run Tryd.prog u = .ok (.int .i64 cnt) u ∧ (loadVar 3 ⟨w.heap.size, 1, none⟩).run Tryd.prog u = .ok (.int .i64 idx) u ∧ (loadVar 22 ⟨w.heap.size, 2, none⟩).run Tryd.prog u = .ok (.slice A m c) u from fun u hu => by
    have hk := (hu.block _ (blk_lt hA0)).trans hA0
    exact ⟨run_load_i64 _ _ _ ((blk_cell hk 0).trans rfl), run_load_i64 _ _ _ ((blk_cell hk 1).trans rfl), run_load_hs _ _ _ ((blk_cell hk 2).trans rfl)⟩)
  have HW0 := Lib.hid hW0
  have HU := Lib.hid (And.intro Tryd.underlying46 (zero_of_info infoR9).2)
  unfold bV
  clear hA0 hZ0 hW0 hm hr hH
  go_enter Tryd.func36, Tryd.ntmps36
  go_wp2_with fail
  rw [HW0.out]
  have HB1 := Lib.hid (below_drew (Below.refl W0.heap.size W0))
  have hHeld := HS.out _ HB1.out
  refine wp_region_held (S := fun u => (loadVar 3 ⟨w.heap.size, 0, none⟩).run Tryd.prog u = .ok (.int .i64 cnt) u ∧ (loadVar 3 ⟨w.heap.size, 1, none⟩).run Tryd.prog u = .ok (.int .i64 idx) u ∧ (loadVar 22 ⟨w.heap.size, 2, none⟩).run Tryd.prog u = .ok (.slice A m c) u) (by kernel_rfl) ?_
  change wpAnyH _ _ _ _ _ _ _ _ (World.drew _)
  refine wpAnyH_take (i := 0) (oi := ({ dst := some 3, op := Op.fieldAddr 41 (Operand.tmp 1) 0, type := 0, pos := "law.go:30", after := #[], guard := none } : Oper)) (v := .pointer (some ⟨w.heap.size, 0, none⟩)) rfl (by kernel_rfl) (by kernel_rfl) (by kernel_rfl) (fun _ _ _ h => h) (Or.inl ⟨by rfl, fun w hSw => by go_simp⟩) hHeld ?_
  simp only [Act.put, List.setIfInBounds_toArray, List.set_cons_zero, List.set_cons_succ]
  refine wpAnyH_take (i := 1) (oi := ({ dst := some 4, op := Op.load 3 (Operand.tmp 3), type := 3, pos := "law.go:30", after := #[{ on := 0, ground := Ground.data }], guard := none } : Oper)) (v := .int .i64 cnt) rfl (by kernel_rfl) (by kernel_rfl) (by kernel_rfl) (fun _ _ _ h => h) (Or.inl ⟨by rfl, fun w hSw => by obtain ⟨z0, z1, z2⟩ := hSw; go_simp⟩) hHeld ?_
  simp only [Act.put, List.setIfInBounds_toArray, List.set_cons_zero, List.set_cons_succ]
  refine wpAnyH_take (i := 2) (oi := ({ dst := some 5, op := Op.fieldAddr 41 (Operand.tmp 1) 1, type := 0, pos := "law.go:30", after := #[], guard := none } : Oper)) (v := .pointer (some ⟨w.heap.size, 1, none⟩)) rfl (by kernel_rfl) (by kernel_rfl) (by kernel_rfl) (fun _ _ _ h => h) (Or.inl ⟨by rfl, fun w hSw => by go_simp⟩) hHeld ?_
  simp only [Act.put, List.setIfInBounds_toArray, List.set_cons_zero, List.set_cons_succ]
  refine wpAnyH_take (i := 3) (oi := ({ dst := some 6, op := Op.load 3 (Operand.tmp 5), type := 3, pos := "law.go:30", after := #[{ on := 2, ground := Ground.data }], guard := none } : Oper)) (v := .int .i64 idx) rfl (by kernel_rfl) (by kernel_rfl) (by kernel_rfl) (fun _ _ _ h => h) (Or.inl ⟨by rfl, fun w hSw => by obtain ⟨z0, z1, z2⟩ := hSw; go_simp⟩) hHeld ?_
  simp only [Act.put, List.setIfInBounds_toArray, List.set_cons_zero, List.set_cons_succ]
  refine wpAnyH_take (i := 4) (oi := ({ dst := some 7, op := Op.fieldAddr 41 (Operand.tmp 1) 2, type := 0, pos := "law.go:30", after := #[], guard := none } : Oper)) (v := .pointer (some ⟨w.heap.size, 2, none⟩)) rfl (by kernel_rfl) (by kernel_rfl) (by kernel_rfl) (fun _ _ _ h => h) (Or.inl ⟨by rfl, fun w hSw => by go_simp⟩) hHeld ?_
  simp only [Act.put, List.setIfInBounds_toArray, List.set_cons_zero, List.set_cons_succ]
  refine wpAnyH_take (i := 5) (oi := ({ dst := some 8, op := Op.load 22 (Operand.tmp 7), type := 22, pos := "law.go:30", after := #[{ on := 4, ground := Ground.data }], guard := none } : Oper)) (v := .slice A m c) rfl (by kernel_rfl) (by kernel_rfl) (by kernel_rfl) (fun _ _ _ h => h) (Or.inl ⟨by rfl, fun w hSw => by obtain ⟨z0, z1, z2⟩ := hSw; go_simp⟩) hHeld ?_
  simp only [Act.put, List.setIfInBounds_toArray, List.set_cons_zero, List.set_cons_succ]
  refine wpAnyH_ready (rs := [6]) (by kernel_rfl) (by simp) ?_
  refine AllReadyH.cons (o := ({ dst := some 9, op := Op.call { callee := Callee.value (Operand.func 32), args := #[Operand.tmp 8], argTypes := #[22] }, type := 28, pos := "law.go:30", after := #[{ on := 5, ground := Ground.data }], guard := none } : Oper)) rfl (fun K hK => ?_) AllReadyH.nil
  go_simp
  (with_reducible refine (HRF.out _ (below_drew HB0.out)).mono ?_)
  rintro e w3 ⟨v, rfl, hv, hb3⟩
  obtain ⟨A3, c3, rfl, hc3, hC3⟩ := Kd.R_reads hv
  rw [← HM.out] at hc3 hC3 ⊢
  have HC3 := Lib.hid (And.intro hc3 (C_setRow (g := w.heap.size + 1) (cs := #[.int .i64 cnt, .int .i64 idx, .slice A3 m c3]) (by rw [← HM.out]; exact hC3) HH.out.2 (fun b o e => by subst e; have h7 := Kd.R_base hv b rfl; have h8 := blk_lt HZ0.out; have h9 : W0.drew.heap.size = W0.heap.size := rfl; omega)))
  have HB3 := Lib.hid (HB1.out.trans (Below.mono hb3 HB1.out.size))
  clear hv hc3 hC3 hb3
  go_wp2_with fail
  refine hK.out _ _ (HS.out _ HB3.out) (fun hHeld => ?_)
  clear hK K
  try simp only [Act.put, List.setIfInBounds_toArray, List.set_cons_zero, List.set_cons_succ]
  have hbu := fun u => run_build (P := Tryd.prog) u 46 #[(0, .int .i64 cnt), (1, .int .i64 idx), (2, .slice A3 m c3)] _ (built_ref9 cnt idx A3 m c3)
  have HZ3 := Lib.hid ((HB3.out.block _ (blk_lt HZ0.out)).trans HZ0.out)
  have HS5 := Lib.hid (show (loadVar 3 ⟨w.heap.size, 0, none⟩).run Tryd.prog (w3.setRow (w.heap.size + 1) #[.int .i64 cnt, .int .i64 idx, .slice A3 m c3]) = .ok (.int .i64 cnt) _ ∧ (loadVar 3 ⟨w.heap.size, 1, none⟩).run Tryd.prog (w3.setRow (w.heap.size + 1) #[.int .i64 cnt, .int .i64 idx, .slice A3 m c3]) = .ok (.int .i64 idx) _ ∧ (loadVar 22 ⟨w.heap.size, 2, none⟩).run Tryd.prog (w3.setRow (w.heap.size + 1) #[.int .i64 cnt, .int .i64 idx, .slice A3 m c3]) = .ok (.slice A m c) _ from by
    have hk := (setRow_other w3 (w.heap.size + 1) w.heap.size #[.int .i64 cnt, .int .i64 idx, .slice A3 m c3] (by omega)).trans ((HB3.out.block _ (blk_lt HA0.out)).trans HA0.out)
    exact ⟨run_load_i64 _ _ _ ((blk_cell hk 0).trans rfl), run_load_i64 _ _ _ ((blk_cell hk 1).trans rfl), run_load_hs _ _ _ ((blk_cell hk 2).trans rfl)⟩)
  refine wpAnyH_take (i := 7) (oi := ({ dst := some 10, op := Op.build 46 #[(0, Operand.tmp 4), (1, Operand.tmp 6), (2, Operand.tmp 9)], type := 46, pos := "law.go:30", after := #[{ on := 1, ground := Ground.data }, { on := 3, ground := Ground.data }, { on := 6, ground := Ground.data }], guard := none } : Oper)) (v := .agg #[.int .i64 cnt, .int .i64 idx, .slice A3 m c3]) rfl (by kernel_rfl) (by kernel_rfl) (by kernel_rfl) (fun _ _ _ h => h) (Or.inl ⟨by rfl, fun w hSw => by go_simp⟩) hHeld ?_
  simp only [Act.put, List.setIfInBounds_toArray, List.set_cons_zero, List.set_cons_succ]
  refine wpAnyH_ready (rs := [8]) (by kernel_rfl) (by simp) ?_
  refine AllReadyH.cons (o := ({ dst := none, op := Op.store 46 (Operand.tmp 2) (Operand.tmp 10), type := 0, pos := "law.go:30", after := #[{ on := 7, ground := Ground.data }, { on := 6, ground := Ground.chain }, { on := 0, ground := Ground.phase }, { on := 1, ground := Ground.phase }, { on := 2, ground := Ground.phase }, { on := 3, ground := Ground.phase }, { on := 4, ground := Ground.phase }, { on := 5, ground := Ground.phase }, { on := 6, ground := Ground.phase }, { on := 7, ground := Ground.phase }], guard := none } : Oper)) rfl (fun K hK => ?_) AllReadyH.nil
  rw [if_pos (by rfl)]
  refine wp_store_row 46 (.tmp 2) (.tmp 10) rfl (w.heap.size + 1) #[.int .i64 cnt, .int .i64 idx, .slice A3 m c3] (by rfl) (by rfl) 46 #[.int .i64 0, .int .i64 0, .slice none 0 0] HZ3.out HU.out.2 rfl (by simp [Value.oneCell']) ?_
  refine hK.out _ _ (HS5.out) (fun hHeld => ?_)
  clear hK K
  try simp only [Act.put, List.setIfInBounds_toArray, List.set_cons_zero, List.set_cons_succ]
  refine wpAnyH_done (by kernel_rfl) ?_ _
  clear hbu hHeld
  go_wp2_with fail
  exact bodyPost_ret (results_cell_row rfl _ _ (w.heap.size + 1) 46 #[.int .i64 cnt, .int .i64 idx, .slice A3 m c3] (0, 0) _ rfl (setRow_heap _ _ _ _ _ _ HZ3.out) HU.out.1 rfl HU.out.2) rfl ⟨A3, c3, rfl, HC3.out.1, by have h := HC3.out.2; rw [← HM.out] at h; exact h, below_setRow (HB0.out.trans (Below.mono HB3.out HB0.out.size)) (by omega) _⟩
end Go.Proofs.YtlmcdkjobdcflaaDoor.Hand

/- A leaf's path leads to the list's root, if that is not doubled: the plain law. -/
namespace Go.Proofs.YtlmcdkjobdcflaaDoor.Hand
open Go Go.RowKit Go.Proofs.YtlmcdkjobdcflaaDoor.Plain
set_option linter.unusedVariables false
set_option linter.unusedSimpArgs false
set_option linter.unnecessarySimpa false
/-- The place beside. -/
def sib (i : Nat) : Nat := if i % 2 = 0 then i + 1 else i - 1
/-- A leaf's path, of so many levels. -/
def pathF : Nat → List (List Int) → Nat → List (List Int)
  | 0, _, _ => []
  | d + 1, xs, i => rdH xs (min (sib i) (xs.length - 1)) :: pathF d (aboveP xs) (i / 2)
theorem pathF_len : ∀ d xs i, (pathF d xs i).length = d
  | 0, _, _ => rfl
  | d + 1, xs, i => by rw [pathF, List.length_cons, pathF_len d]
theorem doubAt_above (xs : List (List Int)) : ∀ k, doubAt xs (k + 1) = (pairedP xs || doubAt (aboveP xs) k)
  | 0 => by simp [doubAt, lev]
  | k + 1 => by
    rw [doubAt, doubAt_above xs k, doubAt, lev_above, Bool.or_assoc]
theorem depth_above {n d : Nat} (h : IsDepth n (d + 1)) : IsDepth ((n + 1) / 2) d := by
  obtain ⟨h1, h2⟩ := h
  rw [Nat.pow_succ] at h1
  refine ⟨by omega, fun i hi => ?_⟩
  have := h2 (i + 1) (by omega)
  rw [Nat.pow_succ] at this
  omega
theorem paired_false {xs : List (List Int)} (h : pairedP xs = false) {k : Nat} (hk : 2 * k + 1 < xs.length) : rdH xs (2 * k + 1) ≠ rdH xs (2 * k) := by
  intro e
  have := paired_of hk (by rw [e]; simp)
  rw [h] at this
  cases this
theorem up_path : ∀ (d : Nat) (xs : List (List Int)) (i : Nat), IsDepth xs.length d → i < xs.length → doubAt xs d = false → upF (pathF d xs i) i xs.length (rdH xs i) = some (rdH (lev xs d) 0)
  | 0, xs, i, hd, hi, _ => by
    have := hd.1
    obtain rfl : i = 0 := by omega
    rfl
  | d + 1, xs, i, hd, hi, hq => by
    have h2 : 2 ≤ xs.length := by
      have := hd.2 0 (by omega)
      rw [Nat.pow_zero] at this
      omega
    rw [doubAt_above] at hq
    obtain ⟨hp, hq⟩ := Bool.or_eq_false_iff.1 hq
    have ih := up_path d (aboveP xs) (i / 2) (by rw [aboveP_len]; exact depth_above hd) (by rw [aboveP_len]; omega) hq
    rw [rdH_above (by omega), aboveP_len, lev_above] at ih
    rw [pathF, upF]
    by_cases ev : i % 2 = 0
    · obtain ⟨k, rfl⟩ : ∃ k, i = 2 * k := ⟨i / 2, by omega⟩
      rw [show 2 * k / 2 = k by omega] at ih ⊢
      have hs : sib (2 * k) = 2 * k + 1 := by unfold sib; rw [if_pos ev]
      rw [hs]
      have hc : ((2 * k % 2 == 0 && 2 * k == xs.length - 1) != (rdH xs (min (2 * k + 1) (xs.length - 1)) == rdH xs (2 * k))) = false := by
        have h1 : (2 * k % 2 == 0) = true := by simpa using ev
        by_cases la : 2 * k = xs.length - 1
        · have h3 : (2 * k == xs.length - 1) = true := by rw [beq_iff_eq]; exact la
          have h4 : (rdH xs (2 * k) == rdH xs (2 * k)) = true := by rw [beq_iff_eq]
          rw [show min (2 * k + 1) (xs.length - 1) = 2 * k by omega, h1, h3, h4]
          rfl
        · have h3 : (2 * k == xs.length - 1) = false := by rw [beq_eq_false_iff_ne]; exact la
          have h4 : (rdH xs (2 * k + 1) == rdH xs (2 * k)) = false := by rw [beq_eq_false_iff_ne]; exact paired_false hp (k := k) (by omega)
          rw [show min (2 * k + 1) (xs.length - 1) = 2 * k + 1 by omega, h1, h3, h4]
          rfl
      rw [hc, if_neg (by decide), if_pos ev]
      exact ih
    · obtain ⟨k, rfl⟩ : ∃ k, i = 2 * k + 1 := ⟨i / 2, by omega⟩
      rw [show (2 * k + 1) / 2 = k by omega] at ih ⊢
      have hs : min (sib (2 * k + 1)) (xs.length - 1) = 2 * k := by unfold sib; rw [if_neg ev]; omega
      rw [hs]
      have hn := paired_false hp (k := k) hi
      have hc : (((2 * k + 1) % 2 == 0 && 2 * k + 1 == xs.length - 1) != (rdH xs (2 * k) == rdH xs (2 * k + 1))) = false := by
        have h1 : ((2 * k + 1) % 2 == 0) = false := by simpa using ev
        have h3 : (rdH xs (2 * k) == rdH xs (2 * k + 1)) = false := by simpa using Ne.symm hn
        rw [h1, h3]
        rfl
      rw [hc, if_neg (by decide), if_neg ev]
      rw [aboveAt, show min (2 * k + 1) (xs.length - 1) = 2 * k + 1 by omega] at ih
      exact ih
/-- P9.2: the way up from any leaf of a list that is not doubled, by its path, ends in the list's root. -/
theorem up_root {xs : List (List Int)} {i d : Nat} (hd : IsDepth xs.length d) (hi : i < xs.length) (hq : doubP xs = false) : upF (pathF d xs i) i xs.length (rdH xs i) = some (rootP xs) := by
  rw [doubP_depth hd] at hq
  rw [up_path d xs i hd hi hq, rootP_of hd, rootAt_depth hd (by omega)]
theorem pathF_at : ∀ (d : Nat) (xs : List (List Int)) (i k : Nat), k < d → rdH (pathF d xs i) k = rdH (lev xs k) (min (sib (i / 2 ^ k)) (wideP xs.length k - 1))
  | d + 1, xs, i, 0, _ => by
    rw [pathF, Nat.pow_zero, Nat.div_one]
    rfl
  | d + 1, xs, i, k + 1, h => by
    have ih := pathF_at d (aboveP xs) (i / 2) k (by omega)
    have e1 : wideP (aboveP xs).length k = wideP xs.length (k + 1) := by rw [← lev_len, lev_above, lev_len]
    have e2 : i / 2 / 2 ^ k = i / 2 ^ (k + 1) := by rw [Nat.div_div_eq_div_mul, Nat.pow_succ, Nat.mul_comm]
    rw [lev_above, e1, e2] at ih
    rw [pathF, ← ih]
    rfl
theorem at_wide {n i : Nat} (h : i < n) : ∀ k, i / 2 ^ k < wideP n k
  | 0 => by simpa [wideP] using h
  | k + 1 => by
    have := at_wide h k
    rw [Nat.pow_succ, ← Nat.div_div_eq_div_mul]
    unfold wideP
    omega
/-- The place that the document takes. -/
theorem sib_min {a W : Nat} (h : a < W) : min (sib a) (W - 1) = if W ≤ sib a then a else sib a := by
  unfold sib
  split <;> split <;> omega
/-- The document's path: its nodes, level by level. -/
theorem pathF_node {d : Nat} {xs : List (List Int)} {i k : Nat} (hi : i < xs.length) (hk : k < d) : rdH (pathF d xs i) k = nodeP xs k (if wideP xs.length k ≤ sib (i / 2 ^ k) then i / 2 ^ k else sib (i / 2 ^ k)) := by
  have hw := at_wide hi k
  rw [pathF_at d xs i k hk, sib_min hw, nodeP_lev]
  split
  · exact hw
  · omega
theorem pathF_Hs : ∀ (d : Nat) (xs : List (List Int)) (i : Nat), Hs xs → Hs (pathF d xs i)
  | 0, xs, i, _ => fun p hp => by cases hp
  | d + 1, xs, i, h => fun p hp => by
    rw [pathF] at hp
    rcases List.mem_cons.1 hp with rfl | hp
    · exact h.any _
    · exact pathF_Hs d (aboveP xs) (i / 2) (aboveP_Hs xs) p hp
end Go.Proofs.YtlmcdkjobdcflaaDoor.Hand

/- What a made branch, and others, say: the plain laws. -/
namespace Go.Proofs.YtlmcdkjobdcflaaDoor.Hand
open Go Go.RowKit Go.Proofs.YtlmcdkjobdcflaaDoor.Plain
set_option linter.unusedVariables false
set_option linter.unusedSimpArgs false
set_option linter.unnecessarySimpa false
theorem bright_of {n i d m : Nat} (hd : IsDepth n d) (hi : i < n) (hn : n ≤ 65536) : brightP (n : Int) (i : Int) m = if m = d then 0 else 3 := by
  unfold brightP
  rw [if_neg (by omega), Int.toNat_natCast, IsDepth.unique (depthP_is n) hd]
  by_cases h : m = d
  · rw [if_neg (by simpa using h), if_pos h]
  · rw [if_pos h, if_neg h]
theorem upP_own {xs : List (List Int)} {n i d : Nat} (hx : n = xs.length) (hd : IsDepth n d) (hi : i < n) (hn : n ≤ 65536) (hq : doubP xs = false) : upP (n : Int) (i : Int) (pathF d xs i) (rdH xs i) = (rootP xs, 0) := by
  subst hx
  unfold upP
  rw [pathF_len, bright_of hd hi hn, if_pos rfl, if_neg (by decide), Int.toNat_natCast, Int.toNat_natCast, up_root hd hi hq]
theorem checkP_own {xs : List (List Int)} {n i d : Nat} (hx : n = xs.length) (hd : IsDepth n d) (hi : i < n) (hn : n ≤ 65536) (hq : doubP xs = false) : checkP (n : Int) (i : Int) (pathF d xs i) (rootP xs) (rdH xs i) = 0 := by
  unfold checkP
  rw [upP_own hx hd hi hn hq, if_pos rfl, if_pos (by simp)]
/-- A path of another length is none's. -/
theorem upP_len {ys : List (List Int)} {n i d : Nat} (hd : IsDepth n d) (hi : i < n) (hn : n ≤ 65536) (hy : ys.length ≠ d) (leaf : List Int) : upP (n : Int) (i : Int) ys leaf = (z32h, 3) := by
  unfold upP
  rw [bright_of hd hi hn, if_neg hy, if_pos (by decide)]
theorem checkP_len {ys : List (List Int)} {n i d : Nat} (hd : IsDepth n d) (hi : i < n) (hn : n ≤ 65536) (hy : ys.length ≠ d) (root leaf : List Int) : checkP (n : Int) (i : Int) ys root leaf = 3 := by
  unfold checkP
  rw [upP_len hd hi hn hy, if_neg (by decide)]
/-- One leaf more, the last once more: no branch leads from it. -/
theorem checkP_twice {xs : List (List Int)} {n d : Nat} (hx : xs.length = n) (ho : n % 2 = 1) (hn : n < 65536) (hd : IsDepth (n + 1) d) (root : List Int) : checkP ((n + 1 : Nat) : Int) (n : Int) (pathF d (xs ++ [rdH xs (n - 1)]) n) root (rdH (xs ++ [rdH xs (n - 1)]) n) = 15 := by
  have h1 : rdH (xs ++ [rdH xs (n - 1)]) n = rdH xs (n - 1) := by
    subst hx
    unfold rdH
    simp
  have h2 : rdH (xs ++ [rdH xs (n - 1)]) (n - 1) = rdH xs (n - 1) := by
    rw [rdH_eq (by rw [List.length_append, List.length_singleton]; omega), rdH_eq (show n - 1 < xs.length by omega), List.getElem_append_left (by omega)]
  obtain ⟨d, rfl⟩ : ∃ e, d = e + 1 := by
    cases d with
    | zero =>
      have := hd.1
      omega
    | succ e => exact ⟨e, rfl⟩
  have hb := bright_of (i := n) (m := d + 1) hd (by omega) (by omega)
  rw [if_pos rfl] at hb
  have hu : upP ((n + 1 : Nat) : Int) (n : Int) (pathF (d + 1) (xs ++ [rdH xs (n - 1)]) n) (rdH (xs ++ [rdH xs (n - 1)]) n) = (z32h, 15) := by
    unfold upP
    rw [pathF_len, hb, if_neg (by decide), Int.toNat_natCast, Int.toNat_natCast, pathF, upF, h1]
    have hs : min (sib n) ((xs ++ [rdH xs (n - 1)]).length - 1) = n - 1 := by
      unfold sib
      rw [if_neg (by omega), List.length_append, List.length_singleton, hx]
      omega
    rw [hs, h2, if_pos (by simp [ho])]
  unfold checkP
  rw [hu, if_neg (by decide)]
end Go.Proofs.YtlmcdkjobdcflaaDoor.Hand

/- A leaf's branch: walked. -/
namespace Go.Proofs.YtlmcdkjobdcflaaDoor.Hand
open Go Go.RowKit Go.Proofs.YtlmcdkjobdcflaaDoor.Plain Go.Proofs.YtlmcdkjobdcflaaDoor.PAll Go.Proofs.YtlmcdkjobdcflaaDoorW.PrintWords Go.Proofs.YtlmcdkjobdcflaaDoorW.PrintLast Go.Proofs.YtlmcdkjobdcflaaDoorW.PrintMore
set_option linter.unusedVariables false
set_option linter.unusedSimpArgs false
set_option maxRecDepth 100000
attribute [local go_sem ↓] Go.wp_at_zero Go.wp_at_succ
theorem run_store_hs (w : World) (a : Addr) (A : Option Addr) (m c : Nat) (v0 : Value) (h : w.cell? a = some v0) (hf : w.frozen? a = false) : (storeVar 22 a (.slice A m c)).run Tryd.prog w = .ok () (w.setCell a (.slice A m c)) := by
  go_simp
attribute [-go_sem] loadVar storeVar Instr.buildSlice
theorem infoB9 : (Tryd.prog.info? 41).map (fun i => (i.zero, i.size)) = some (some (.agg #[.int .i64 0, .int .i64 0, .slice none 0 0]), 3) := by kernel_rfl
theorem built_b0 : Tryd.prog.built 41 [] = some #[.int .i64 0, .int .i64 0, .slice none 0 0] := by kernel_rfl
theorem built_b2 (n i : Int) : Tryd.prog.built 41 [(0, .int .i64 n), (1, .int .i64 i)] = some #[.int .i64 n, .int .i64 i, .slice none 0 0] := by kernel_rfl
theorem nat_sib (x : Nat) : x ^^^ 1 = sib x := by
  have h1 : (x ^^^ 1) / 2 = x / 2 := by rw [Nat.xor_div_two]; simp
  have h2 : (x ^^^ 1) % 2 = (x + 1) % 2 := by
    have h := Nat.xor_mod_two_pow (a := x) (b := 1) (n := 1)
    rw [Nat.pow_one] at h
    rw [h]
    rcases Nat.mod_two_eq_zero_or_one x with e | e
    · rw [e, show (0 ^^^ 1 % 2 : Nat) = 1 by decide]
      omega
    · rw [e, show (1 ^^^ 1 % 2 : Nat) = 0 by decide]
      omega
  unfold sib
  split <;> omega
theorem i64_sib (x : Nat) (hx : x < 4611686018427387904) : bits .xor .i64 (x : Int) 1 = ((sib x : Nat) : Int) := by
  show IntKind.i64.wrap ((BitVec.ofInt 64 (x : Int) ^^^ BitVec.ofInt 64 1).toNat : Int) = _
  have h1 : (BitVec.ofInt 64 1).toNat = 1 := by decide
  have h2 : (BitVec.ofInt 64 (x : Int)).toNat = x := by
    rw [BitVec.ofInt_natCast, BitVec.toNat_ofNat]; exact Nat.mod_eq_of_lt (by omega)
  have h3 : sib x ≤ x + 1 := by unfold sib; split <;> omega
  rw [BitVec.toNat_xor, h1, h2, nat_sib, IntKind.wrap_i64]
  omega
theorem C_moved {w w1 : World} {A : Option Addr} {xs : List (List Int)} {n : Nat} (hn : xs.length = n) (hC : Kd.C kH w A n xs) (h32 : Hs xs) (h : ∀ b o, A = some ⟨b, o, none⟩ → w1.heap[b]? = w.heap[b]?) : Kd.C kH w1 A n xs := by
  subst hn
  by_cases h0 : xs.length = 0
  · exact ⟨rfl, Kd.C_max hC, fun hp => absurd hp (by omega)⟩
  · obtain ⟨b, o, rfl, hb, hrg⟩ := C_hash hC (by omega)
    have h2 := h b o rfl
    refine C_of_ranges (fun i hi j v hj => ?_) (fun p hp => (h32 p hp).1) (Kd.C_max hC)
    exact (World.cell?_of_block h2).trans ((hrg i hi).1 j v hj)
theorem above_new {xs : List (List Int)} {l m : Nat} (A : Option Addr) (c : Nat) (u : World) (hl : xs.length = l) (hm : (l + 1) / 2 = m) (hH : Hs xs) (h5 : l ≤ 100000) (hr : Kd.C kH u A l xs) (hc : l ≤ c) (hK : KT u) :
    Calls Tryd.prog 23 #[.slice A l c] u fun e w' => ∃ A2 c2, e = .returned (.slice A2 m c2) ∧ m ≤ c2 ∧ Kd.C kH w' A2 m (aboveP xs) ∧ (∀ b o, A2 = some ⟨b, o, none⟩ → u.heap.size ≤ b) ∧ Below u.heap.size u w' := by
  refine (above_calls A l c xs u hl.symm hr hc h5 hH hK).mono ?_
  rintro e w' ⟨v, rfl, hv, hb⟩
  obtain ⟨A2, c2, rfl, h1, h2⟩ := Kd.R_reads hv
  have h3 : (aboveP xs).length = m := by rw [aboveP_len, hl, hm]
  rw [h3] at h1 h2 ⊢
  exact ⟨A2, c2, rfl, h1, h2, fun b o e => by subst e; exact Kd.R_base hv b rfl, hb⟩
def lenV9 : Value → Nat
  | .slice _ n _ => n
  | _ => 0
set_option maxHeartbeats 4000000 in
set_option maxHeartbeats 4000000 in
theorem make_calls (A : Option Addr) (n c : Nat) (xs : List (List Int)) (i d : Nat) (w : World) (hn : n = xs.length) (hr : Kd.C kH w A n xs) (hc : n ≤ c) (hl : n ≤ 65536) (hH : Hs xs) (hi : i < n) (hd : IsDepth n d) (hK : KT w) :
    Calls Tryd.prog 30 #[.slice A n c, .int .i64 (i : Int)] w fun e w' => ∃ A2 c2, e = .returned (.tuple #[bV n i A2 d c2, .int .i64 0]) ∧ d ≤ c2 ∧ Kd.C kH w' A2 d (pathF d xs i) ∧ Below w.heap.size w w' := by
  have hz := (zero_of_info infoB9).1
  have HI := Lib.hid (And.intro Tryd.underlying41 (And.intro (zero_of_info infoB9).2 (built_b2 n i)))
  have hb2 := heap_alloc2_new w (.cells #[.int .i64 0, .int .i64 0, .slice none 0 0] 41) (.cells #[.int .i64 0, .int .i64 0, .slice none 0 0] 41)
  have HB2 := Lib.hid hb2
  have HZ0 := Lib.hid ((setRow_other ((w.alloc (.cells #[.int .i64 0, .int .i64 0, .slice none 0 0] 41)).alloc (.cells #[.int .i64 0, .int .i64 0, .slice none 0 0] 41)) (w.heap.size + 1) w.heap.size #[.int .i64 n, .int .i64 i, .slice none 0 0] (by omega)).trans (heap_alloc2_old w (.cells #[.int .i64 0, .int .i64 0, .slice none 0 0] 41) (.cells #[.int .i64 0, .int .i64 0, .slice none 0 0] 41)))
  have HB1 := Lib.hid (setRow_heap _ _ _ #[.int .i64 n, .int .i64 i, .slice none 0 0] _ _ hb2)
  have HB := Lib.hid (below_setRow (below_alloc (below_alloc (Below.refl w.heap.size w) (.cells #[.int .i64 0, .int .i64 0, .slice none 0 0] 41)) (.cells #[.int .i64 0, .int .i64 0, .slice none 0 0] 41)) (show w.heap.size ≤ w.heap.size + 1 by omega) #[.int .i64 n, .int .i64 i, .slice none 0 0])
  clear hb2
  have HN := Lib.hid hn
  have HR := Lib.hid hr
  have HH := Lib.hid hH
  have HK := Lib.hid hK
  have HD := Lib.hid hd
  have hd16 : d ≤ 16 := depth_le hd (m := 16) (by have h16 : (2 : Nat) ^ 16 = 65536 := by decide
                                                  omega)
  have f0 : ¬ (65536 : Int) < (n : Int) := by omega
  have f1 : ¬ (i : Int) < 0 := by omega
  have f2 : ¬ (n : Int) ≤ (i : Int) := by omega
  have f3 : ¬ n ≤ i := by omega
  unfold bV
  clear hn hr hH hK hd
  go_enter Tryd.func30, Tryd.ntmps30
  go_wp2_with (first
    | ((with_reducible show wpList _ _ _ (Oper.mk _ (Op.build _ _) _ _ _ _ :: _) _ _); (go_loud (refine wpl_build rfl 41 _ rfl #[(0, .int .i64 n), (1, .int .i64 i)] (by simp [Act.eval]) _ HI.out.2.2 ?_)))
    | ((with_reducible show wpList _ _ _ (Oper.mk _ (Op.store _ (.tmp 6) _) _ _ _ _ :: _) _ _); (go_loud (refine wpList_store_row rfl 41 (.tmp 6) (.tmp 23) rfl (w.heap.size + 1) #[.int .i64 n, .int .i64 i, .slice none 0 0] rfl rfl 41 #[.int .i64 0, .int .i64 0, .slice none 0 0] HB2.out HI.out.2.1 rfl (by simp [Value.oneCell']) ?_))))
  go_loopw [0, 1] (fun vl vi wr => ∃ (k j : Nat) (Ak : Option Addr) (ck : Nat), vl = .slice Ak (wideP n k) ck ∧ vi = .int .i64 (j : Int) ∧ Hid (k ≤ d ∧ j < wideP n k ∧ (∃ pre v, pathF d xs i = pre ++ pathF (d - k) (lev xs k) j ∧ pre.length = k ∧ wr.heap[w.heap.size + 1]? = some (.cells #[.int .i64 n, .int .i64 i, v] 41 (0, 0)) ∧ Kd.R kH 25 wr (w.heap.size + 2) (fun _ => True) v pre ∧ (∀ b o, Ak = some ⟨b, o, none⟩ → b ≠ w.heap.size ∧ b ≠ w.heap.size + 1 ∧ some b ≠ v.ownBlock)) ∧ wr.heap[w.heap.size]? = some (.cells #[.int .i64 0, .int .i64 0, .slice none 0 0] 41 (0, 0)) ∧ wideP n k ≤ ck ∧ Kd.C kH wr Ak (wideP n k) (lev xs k) ∧ Below w.heap.size w wr)) (fun vl _ _ => lenV9 vl)
  case atStart => exact ⟨0, i, A, c, rfl, rfl, Lib.hid ⟨Nat.zero_le _, hi, ⟨[], .slice none 0 0, rfl, rfl, HB1.out, Kd.R_nil _ _ _ _ _, fun b o e => by
    obtain ⟨b2, o2, e2, hb2, _⟩ := C_hash (w := w) (A := A) (xs := xs) (by have h8 := HR.out; rw [HN.out] at h8; exact h8) (by rw [← HN.out]; omega)
    rw [e] at e2
    injection e2 with e2
    injection e2 with e2
    subst e2
    exact ⟨by omega, by omega, by simp [Value.ownBlock]⟩⟩, HZ0.out, hc, Kd.C_below HR.out HB.out, HB.out⟩⟩
  case round =>
    obtain ⟨k, j, Ak, ck, rfl, rfl, H⟩ := hrel
    obtain ⟨hkd, hj, ⟨pre, v, hpath, hpl, hBc, hRv, hNE⟩, hZc, hck, hC, hBw⟩ := H.out
    obtain ⟨l, hl⟩ : ∃ l, wideP n k = l := ⟨_, rfl⟩
    obtain ⟨l2, hl2⟩ : ∃ l2, (l + 1) / 2 = l2 := ⟨_, rfl⟩
    have hl9 : l ≤ 65536 := by have := wideP_le n k; omega
    rw [hl] at hj hck hC ⊢
    have hlen : (lev xs k).length = l := by rw [lev_len, ← HN.out, hl]
    by_cases hlt : 1 < l
    · have hkd2 : k < d := by
        rcases Nat.lt_or_ge k d with h | h
        · exact h
        · have he : k = d := by omega
          have hw := (depth_wide HD.out).1
          rw [← he, hl] at hw
          omega
      obtain ⟨b, o, rfl, hbl, hrg⟩ := C_hash (w := wr) (A := Ak) (xs := lev xs k) (by rw [hlen]; exact hC) (by omega)
      obtain ⟨hne0, hne1, hne2⟩ := hNE b o rfl
      obtain ⟨jj, hjj⟩ : ∃ x, min (sib j) (l - 1) = x := ⟨_, rfl⟩
      obtain ⟨rP, sP⟩ := hrg jj (by omega)
      have hiP : (Tryd.prog.info? 25).map (·.size) = some (nums .u8 (rdH (lev xs k) jj)).length := by rw [nums_len, sP]; exact (zero_of_info infoHash).2
      have hbs := fun u => run_hash1 _ sP u
      obtain ⟨P, hP⟩ : ∃ P, nums .u8 (rdH (lev xs k) jj) = P := ⟨_, rfl⟩
      rw [hP] at rP hiP hbs
      have hu := Tryd.underlying25
      have hx := i64_sib j (by omega)
      have g1 : (1 : Int) < (l : Int) := by omega
      have g2 : (0 : Int) ≤ (jj : Int) := by omega
      have g3 : (jj : Int) < (l : Int) := by omega
      have hmin : min ((sib j : Nat) : Int) ((l : Int) - 1) = (jj : Int) := by omega
      have hw3 : IntKind.i64.wrap ((l : Int) - 1) = (l : Int) - 1 := IntWalk.i64_in _ (by omega)
      have hHeld : wr.drew.rangeAt b (o + jj * 32) P := rP
      have hld1 : (loadVar 22 ⟨w.heap.size + 1, 2, none⟩).run Tryd.prog wr.drew = .ok v wr.drew := run_load_hs _ _ _ ((blk_cell hBc 2).trans rfl)
      have hld2 : (loadVar 22 ⟨w.heap.size + 1, 2, none⟩).run Tryd.prog (wr.alloc (.cells P.toArray 25)).drew = .ok v (wr.alloc (.cells P.toArray 25)).drew := run_load_hs _ _ _ ((blk_cell (blk_alloc hBc _) 2).trans rfl)
      have HRV := Lib.hid hRv
      have HSA := Lib.hid (show ∀ u : World, Below wr.heap.size wr u → u.rangeAt b (o + jj * 32) P from fun u hu => range_below hu hbl rP)
      have HCM := Lib.hid (show ∀ u : World, kH.M u (w.heap.size + 2) (fun _ => False) (rdH (lev xs k) jj) P from fun u => by rw [← hP]; exact kH_M sP)
      have HTL := Lib.hid (show (pre.length + 1) * 32 ≤ 140737488355328 by omega)
      have HBS := Lib.hid (show w.heap.size + 2 ≤ wr.heap.size by have := blk_lt hBc; omega)
      have HBO := Lib.hid (show some (w.heap.size + 1) ≠ v.ownBlock from fun e => by have := Kd.R_base hRv _ e.symm; omega)
      have HZO := Lib.hid (show some w.heap.size ≠ v.ownBlock from fun e => by have := Kd.R_base hRv _ e.symm; omega)
      -- behind the append, and behind the store into the branch
      have HAFTER := Lib.hid (show ∀ (v4 : Value) (w4 : World), Kd.R kH 25 w4 (w.heap.size + 2) (fun _ => True) v4 (pre ++ [rdH (lev xs k) jj]) → Below (w.heap.size + 2) wr w4 → wr.drew.grownBy w4 v.ownBlock → (v4.ownBlock = v.ownBlock ∨ ∃ b, v4.ownBlock = some b ∧ wr.drew.heap.size ≤ b) →
          w4.rangeAt b (o + jj * 32) P ∧ (storeVar 22 ⟨w.heap.size + 1, 2, none⟩ v4).run Tryd.prog w4 = .ok () (w4.setCell ⟨w.heap.size + 1, 2, none⟩ v4) ∧ (w4.setCell ⟨w.heap.size + 1, 2, none⟩ v4).rangeAt b (o + jj * 32) P
          ∧ (w4.setCell ⟨w.heap.size + 1, 2, none⟩ v4).heap[w.heap.size + 1]? = some (.cells #[.int .i64 n, .int .i64 i, v4] 41 (0, 0)) ∧ (w4.setCell ⟨w.heap.size + 1, 2, none⟩ v4).heap[w.heap.size]? = some (.cells #[.int .i64 0, .int .i64 0, .slice none 0 0] 41 (0, 0))
          ∧ Kd.C kH (w4.setCell ⟨w.heap.size + 1, 2, none⟩ v4) (some ⟨b, o, none⟩) l (lev xs k) ∧ Below w.heap.size w (w4.setCell ⟨w.heap.size + 1, 2, none⟩ v4) ∧ Kd.R kH 25 (w4.setCell ⟨w.heap.size + 1, 2, none⟩ v4) (w.heap.size + 2) (fun _ => True) v4 (pre ++ [rdH (lev xs k) jj]) ∧ (∀ g, v4.ownBlock = some g → g < (w4.setCell ⟨w.heap.size + 1, 2, none⟩ v4).heap.size) from by
        intro v4 w4 ho hb hg hat
        have hb4 : w4.heap[b]? = wr.heap[b]? := hg.block b hbl hne2
        have hB4 : w4.heap[w.heap.size + 1]? = some (.cells #[.int .i64 n, .int .i64 i, v] 41 (0, 0)) := (hg.block _ (blk_lt hBc) HBO.out).trans hBc
        have hZ4 : w4.heap[w.heap.size]? = _ := (hg.block _ (blk_lt hZc) HZO.out).trans hZc
        have hr4 : w4.rangeAt b (o + jj * 32) P := fun x u hx => (World.cell?_of_block hb4).trans (rP x u hx)
        obtain ⟨A4, c4, rfl⟩ := Kd.R_slice ho
        have hfar : (w4.setCell ⟨w.heap.size + 1, 2, none⟩ (.slice A4 (pre ++ [rdH (lev xs k) jj]).length c4)).heap[b]? = wr.heap[b]? := (Below.heap_setCell w4 _ _ b hne1).trans hb4
        refine ⟨hr4, run_store_hs _ _ _ _ _ _ ((blk_cell hB4 2).trans rfl) (blk_frozen hB4 2), fun x u hx => (World.cell?_of_block hfar).trans (rP x u hx), blk_set hB4 2 _, (Below.heap_setCell w4 _ _ _ (by simp)).trans hZ4, C_moved hlen hC (lev_Hs HH.out k) (fun b2 o2 e => ?_), (hBw.trans (Below.mono hb (by omega))).setCell (p := ⟨w.heap.size + 1, 2, none⟩) (show w.heap.size ≤ w.heap.size + 1 by omega) _, Kd.R_mono (Kd.R_step (Kd.R_bound ho) (fun g h _ => Below.heap_setCell w4 _ _ g (show g ≠ w.heap.size + 1 from by have := h.2.1; omega))) (fun _ _ => trivial), fun g e => ?_⟩
        · injection e with e
          injection e with e
          subst e
          exact hfar
        · have h9 := Kd.R_lt ho g e
          simpa [World.setCell] using h9)
      have HCK := Lib.hid hck
      have HNEXT := Lib.hid (show ∀ (v4 : Value) (W5 w6 : World) (A6 : Option Addr) (c6 : Nat),
          (W5.heap[w.heap.size + 1]? = some (.cells #[.int .i64 n, .int .i64 i, v4] 41 (0, 0)) ∧ W5.heap[w.heap.size]? = some (.cells #[.int .i64 0, .int .i64 0, .slice none 0 0] 41 (0, 0))
          ∧ Kd.C kH W5 (some ⟨b, o, none⟩) l (lev xs k) ∧ Below w.heap.size w W5 ∧ Kd.R kH 25 W5 (w.heap.size + 2) (fun _ => True) v4 (pre ++ [rdH (lev xs k) jj]) ∧ (∀ g, v4.ownBlock = some g → g < W5.heap.size)) →
          (l2 ≤ c6 ∧ Kd.C kH w6 A6 l2 (aboveP (lev xs k)) ∧ (∀ b o, A6 = some ⟨b, o, none⟩ → W5.heap.size ≤ b)) → Below W5.heap.size W5 w6 →
          (k + 1 ≤ d ∧ j / 2 < wideP n (k + 1) ∧ (∃ pre v, pathF d xs i = pre ++ pathF (d - (k + 1)) (lev xs (k + 1)) (j / 2) ∧ pre.length = k + 1 ∧ w6.heap[w.heap.size + 1]? = some (.cells #[.int .i64 n, .int .i64 i, v] 41 (0, 0)) ∧ Kd.R kH 25 w6 (w.heap.size + 2) (fun _ => True) v pre ∧ (∀ b o, A6 = some ⟨b, o, none⟩ → b ≠ w.heap.size ∧ b ≠ w.heap.size + 1 ∧ some b ≠ v.ownBlock)) ∧ w6.heap[w.heap.size]? = some (.cells #[.int .i64 0, .int .i64 0, .slice none 0 0] 41 (0, 0)) ∧ wideP n (k + 1) ≤ c6 ∧ Kd.C kH w6 A6 (wideP n (k + 1)) (lev xs (k + 1)) ∧ Below w.heap.size w w6) from by
        intro v4 W5 w6 A6 c6 ⟨h1, h2, h3, h4, h5, h6⟩ ⟨h7, h8, h9⟩ h10
        have e1 : wideP n (k + 1) = l2 := by rw [← hl2, ← hl]; rfl
        have s1 := blk_lt h1
        rw [e1]
        refine ⟨hkd2, by omega, ⟨pre ++ [rdH (lev xs k) jj], v4, ?_, by rw [List.length_append, hpl]; rfl, (h10.block _ s1).trans h1, Kd.R_below h5 h10, fun b o e => ?_⟩, (h10.block _ (blk_lt h2)).trans h2, h7, h8, h4.trans (Below.mono h10 h4.size)⟩
        · obtain ⟨m, hm⟩ : ∃ m, d - k = m + 1 := ⟨d - k - 1, by omega⟩
          rw [hpath, hm, pathF, hlen, hjj, show d - (k + 1) = m by omega, List.append_assoc]
          rfl
        · have h11 := h9 b o e
          refine ⟨by omega, by omega, fun e2 => ?_⟩
          have := h6 b e2.symm
          omega)
      have HREST := Lib.hid (And.intro hkd2 (And.intro hj (And.intro hpath (And.intro hpl (And.intro hl (And.intro hjj hlen))))))
      clear hkd hkd2 hj hpath hpl hBc hZc hck hC hBw hl hjj hRv hlen hrg hP rP sP H hNE hne0 hne1 hne2
      go_wp2_with fail
      refine wp_region_held (S := fun u => u.rangeAt b (o + jj * 32) P) (by kernel_rfl) ?_
      change wpAnyH _ _ _ _ _ _ _ _ (World.drew _)
      refine wpAnyH_take (i := 0) (oi := ({ dst := some 27, op := Op.fieldAddr 41 (Operand.tmp 6) 2, type := 0, pos := "branch.go:26", after := #[], guard := none } : Oper)) (v := .pointer (some ⟨w.heap.size + 1, 2, none⟩)) rfl (by kernel_rfl) (by kernel_rfl) (by kernel_rfl) (fun _ _ _ h => h) (Or.inl ⟨by rfl, fun w hSw => by go_simp⟩) hHeld ?_
      simp only [Act.put, List.setIfInBounds_toArray, List.set_cons_zero, List.set_cons_succ]
      refine wpAnyH_take (i := 2) (oi := ({ dst := some 29, op := Op.move (Operand.tmp 0), type := 22, pos := "branch.go:26", after := #[], guard := none } : Oper)) (v := .slice (some ⟨b, o, none⟩) l ck) rfl (by kernel_rfl) (by kernel_rfl) (by kernel_rfl) (fun _ _ _ h => h) (Or.inl ⟨by rfl, fun w hSw => by go_simp⟩) hHeld ?_
      simp only [Act.put, List.setIfInBounds_toArray, List.set_cons_zero, List.set_cons_succ]
      refine wpAnyH_take (i := 3) (oi := ({ dst := some 30, op := Op.move (Operand.tmp 1), type := 3, pos := "branch.go:26", after := #[], guard := none } : Oper)) (v := .int .i64 (j : Int)) rfl (by kernel_rfl) (by kernel_rfl) (by kernel_rfl) (fun _ _ _ h => h) (Or.inl ⟨by rfl, fun w hSw => by go_simp⟩) hHeld ?_
      simp only [Act.put, List.setIfInBounds_toArray, List.set_cons_zero, List.set_cons_succ]
      refine wpAnyH_take (i := 4) (oi := ({ dst := some 31, op := Op.binOp BinOp.xor 3 (Operand.tmp 30) (Operand.const (Value.int IntKind.i64 1)) 3, type := 3, pos := "branch.go:26", after := #[{ on := 3, ground := Ground.data }], guard := none } : Oper)) (v := .int .i64 ((sib j : Nat) : Int)) rfl (by kernel_rfl) (by kernel_rfl) (by kernel_rfl) (fun _ _ _ h => h) (Or.inl ⟨by rfl, fun w hSw => by go_simp⟩) hHeld ?_
      simp only [Act.put, List.setIfInBounds_toArray, List.set_cons_zero, List.set_cons_succ]
      refine wpAnyH_take (i := 5) (oi := ({ dst := some 32, op := Op.move (Operand.tmp 0), type := 22, pos := "branch.go:26", after := #[], guard := none } : Oper)) (v := .slice (some ⟨b, o, none⟩) l ck) rfl (by kernel_rfl) (by kernel_rfl) (by kernel_rfl) (fun _ _ _ h => h) (Or.inl ⟨by rfl, fun w hSw => by go_simp⟩) hHeld ?_
      simp only [Act.put, List.setIfInBounds_toArray, List.set_cons_zero, List.set_cons_succ]
      refine wpAnyH_take (i := 6) (oi := ({ dst := some 33, op := Op.call { callee := Callee.builtin Builtin.len, args := #[Operand.tmp 32], argTypes := #[22] }, type := 3, pos := "branch.go:26", after := #[{ on := 5, ground := Ground.data }], guard := none } : Oper)) (v := .int .i64 (l : Int)) rfl (by kernel_rfl) (by kernel_rfl) (by kernel_rfl) (fun _ _ _ h => h) (Or.inl ⟨by rfl, fun w hSw => by go_simp⟩) hHeld ?_
      simp only [Act.put, List.setIfInBounds_toArray, List.set_cons_zero, List.set_cons_succ]
      refine wpAnyH_take (i := 7) (oi := ({ dst := some 34, op := Op.binOp BinOp.sub 3 (Operand.tmp 33) (Operand.const (Value.int IntKind.i64 1)) 3, type := 3, pos := "branch.go:26", after := #[{ on := 6, ground := Ground.data }], guard := none } : Oper)) (v := .int .i64 ((l : Int) - 1)) rfl (by kernel_rfl) (by kernel_rfl) (by kernel_rfl) (fun _ _ _ h => h) (Or.inl ⟨by rfl, fun w hSw => by go_simp⟩) hHeld ?_
      simp only [Act.put, List.setIfInBounds_toArray, List.set_cons_zero, List.set_cons_succ]
      refine wpAnyH_take (i := 8) (oi := ({ dst := some 35, op := Op.call { callee := Callee.builtin Builtin.min, args := #[Operand.tmp 31, Operand.tmp 34], argTypes := #[3, 3] }, type := 3, pos := "branch.go:26", after := #[{ on := 4, ground := Ground.data }, { on := 7, ground := Ground.data }], guard := none } : Oper)) (v := .int .i64 (jj : Int)) rfl (by kernel_rfl) (by kernel_rfl) (by kernel_rfl) (fun _ _ _ h => h) (Or.inl ⟨by rfl, fun w hSw => by go_simp⟩) hHeld ?_
      simp only [Act.put, List.setIfInBounds_toArray, List.set_cons_zero, List.set_cons_succ]
      refine wpAnyH_take (i := 9) (oi := ({ dst := some 36, op := Op.indexAddr 22 (Operand.tmp 29) (Operand.tmp 35), type := 0, pos := "branch.go:26", after := #[{ on := 2, ground := Ground.data }, { on := 8, ground := Ground.data }], guard := none } : Oper)) (v := .pointer (some ⟨b, o + jj * 32, none⟩)) rfl (by kernel_rfl) (by kernel_rfl) (by kernel_rfl) (fun _ _ _ h => h) (Or.inl ⟨by rfl, fun w hSw => by go_simp⟩) hHeld ?_
      simp only [Act.put, List.setIfInBounds_toArray, List.set_cons_zero, List.set_cons_succ]
      refine wpAnyH_take (i := 10) (oi := ({ dst := some 37, op := Op.load 25 (Operand.tmp 36), type := 25, pos := "branch.go:26", after := #[{ on := 9, ground := Ground.data }], guard := none } : Oper)) (v := .agg P.toArray) rfl (by kernel_rfl) (by kernel_rfl) (by kernel_rfl) (fun _ _ _ h => h) (yieldsIf_load_mid (by rfl) _ _ rfl b (o + jj * 32) rfl P _ (fun _ h => h) hu rfl hiP) hHeld ?_
      simp only [Act.put, List.setIfInBounds_toArray, List.set_cons_zero, List.set_cons_succ]
      have HBR := Lib.hid (below_drew (below_alloc (Below.refl wr.heap.size wr) (.cells P.toArray 25)))
      refine wpAnyH_ready (rs := [1, 11]) (by kernel_rfl) (by simp) ?_
      refine AllReadyH.cons (o := ({ dst := some 28, op := Op.load 22 (Operand.tmp 27), type := 22, pos := "branch.go:26", after := #[{ on := 0, ground := Ground.data }], guard := none } : Oper)) rfl (fun K hK => ?_) (AllReadyH.cons (o := ({ dst := some 38, op := Op.buildSlice 22 1 #[(0, Operand.tmp 37)], type := 22, pos := "branch.go:26", after := #[{ on := 10, ground := Ground.data }], guard := none } : Oper)) rfl (fun K hK => ?_) AllReadyH.nil)
      go_simp
      refine hK.out _ _ (HSA.out _ (below_drew (Below.refl _ _))) (fun hHeld => ?_)
      clear hK K
      try simp only [Act.put, List.setIfInBounds_toArray, List.set_cons_zero, List.set_cons_succ]
      refine wpAnyH_ready (rs := [11]) (by kernel_rfl) (by simp) ?_
      refine AllReadyH.cons (o := ({ dst := some 38, op := Op.buildSlice 22 1 #[(0, Operand.tmp 37)], type := 22, pos := "branch.go:26", after := #[{ on := 10, ground := Ground.data }], guard := none } : Oper)) rfl (fun K hK => ?_) AllReadyH.nil
      go_simp
      refine hK.out _ _ (HSA.out _ HBR.out) (fun hHeld => ?_)
      clear hK K
      try simp only [Act.put, List.setIfInBounds_toArray, List.set_cons_zero, List.set_cons_succ]
      refine wpAnyH_ready (rs := [12]) (by kernel_rfl) (by simp) ?_
      refine AllReadyH.cons (o := ({ dst := some 39, op := Op.call { callee := Callee.builtin Builtin.append, args := #[Operand.tmp 28, Operand.tmp 38], argTypes := #[22, 22] }, type := 22, pos := "branch.go:26", after := #[{ on := 1, ground := Ground.data }, { on := 11, ground := Ground.data }], guard := none } : Oper)) rfl (fun K hK => ?_) AllReadyH.nil
      refine Kd.R_append_step kH (W := wr.drew) (w0 := wr) (w.heap.size + 2) (by rfl) (.tmp 28) (.tmp 38) 22 25 (.agg (nums .u8 (List.replicate 32 0)).toArray) 32 (by rfl) Tryd.underlying22 infoH3 rfl (by decide) (by decide) v pre (rdH (lev xs k) jj) P (fun _ => True) (fun _ => False) (by rfl) (by rfl) (HCM.out _) (fun _ h => h.elim) (fun _ _ => trivial) (Kd.R_drew HRV.out) (below_drew (Below.refl _ _)) HBS.out HTL.out ?_
      intro v4 w4 ho hb hg hat
      have HA4 := Lib.hid (HAFTER.out v4 w4 ho hb hg hat)
      clear ho hb hg hat
      refine hK.out _ _ (HA4.out.1) (fun hHeld => ?_)
      clear hK K
      try simp only [Act.put, List.setIfInBounds_toArray, List.set_cons_zero, List.set_cons_succ]
      have hst := HA4.out.2.1
      refine wpAnyH_take (i := 13) (oi := ({ dst := some 40, op := Op.fieldAddr 41 (Operand.tmp 6) 2, type := 0, pos := "branch.go:26", after := #[{ on := 0, ground := Ground.phase }, { on := 1, ground := Ground.phase }, { on := 2, ground := Ground.phase }, { on := 3, ground := Ground.phase }, { on := 4, ground := Ground.phase }, { on := 5, ground := Ground.phase }, { on := 6, ground := Ground.phase }, { on := 7, ground := Ground.phase }, { on := 8, ground := Ground.phase }, { on := 9, ground := Ground.phase }, { on := 10, ground := Ground.phase }, { on := 11, ground := Ground.phase }, { on := 12, ground := Ground.phase }], guard := none } : Oper)) (v := .pointer (some ⟨w.heap.size + 1, 2, none⟩)) rfl (by kernel_rfl) (by kernel_rfl) (by kernel_rfl) (fun _ _ _ h => h) (Or.inl ⟨by rfl, fun w hSw => by go_simp⟩) hHeld ?_
      simp only [Act.put, List.setIfInBounds_toArray, List.set_cons_zero, List.set_cons_succ]
      refine wpAnyH_ready (rs := [14]) (by kernel_rfl) (by simp) ?_
      refine AllReadyH.cons (o := ({ dst := none, op := Op.store 22 (Operand.tmp 40) (Operand.tmp 39), type := 0, pos := "branch.go:26", after := #[{ on := 13, ground := Ground.data }, { on := 12, ground := Ground.data }, { on := 12, ground := Ground.chain }, { on := 0, ground := Ground.phase }, { on := 1, ground := Ground.phase }, { on := 2, ground := Ground.phase }, { on := 3, ground := Ground.phase }, { on := 4, ground := Ground.phase }, { on := 5, ground := Ground.phase }, { on := 6, ground := Ground.phase }, { on := 7, ground := Ground.phase }, { on := 8, ground := Ground.phase }, { on := 9, ground := Ground.phase }, { on := 10, ground := Ground.phase }, { on := 11, ground := Ground.phase }, { on := 12, ground := Ground.phase }], guard := none } : Oper)) rfl (fun K hK => ?_) AllReadyH.nil
      go_simp
      refine hK.out _ _ (HA4.out.2.2.1) (fun hHeld => ?_)
      clear hK K
      try simp only [Act.put, List.setIfInBounds_toArray, List.set_cons_zero, List.set_cons_succ]
      refine wpAnyH_done (by kernel_rfl) ?_ _
      clear hst hHeld hld1 hld2 hbs
      obtain ⟨W5, hW5⟩ : ∃ W, w4.setCell ⟨w.heap.size + 1, 2, none⟩ v4 = W := ⟨_, rfl⟩
      have HA5 := Lib.hid HA4.out.2.2.2
      rw [hW5] at HA5 ⊢
      have HAB := Lib.hid (above_new (some ⟨b, o, none⟩) ck W5 HREST.out.2.2.2.2.2.2 hl2 (lev_Hs HH.out k) (by omega) HA5.out.2.2.1 HCK.out (HK.out.below HA5.out.2.2.2.1 (Nat.le_refl _)))
      clear hW5 HA4
      go_wp2_with fail
      refine HAB.out.mono ?_
      rintro e w6 ⟨A6, c6, rfl, hc6, hC6, hn6, hb6⟩
      have HB6 := Lib.hid hb6
      have HC6 := Lib.hid (And.intro hc6 (And.intro hC6 hn6))
      clear hc6 hC6 hn6 hb6
      have hwj : wrap64 ((j : Int) / 2) = ((j / 2 : Nat) : Int) := by have hj7 := HREST.out.2.1; rw [IntWalk.wrap64_in _ ⟨by omega, by omega⟩]; omega
      go_wp2_with fail
      try rw [hwj]
      go_roundw
      case rel => exact ⟨k + 1, j / 2, A6, c6, by rw [show wideP n (k + 1) = l2 from by rw [← hl2, ← HREST.out.2.2.2.2.1]; rfl], by first | rfl | (congr 1 <;> omega), Lib.hid (HNEXT.out v4 W5 w6 A6 c6 HA5.out HC6.out HB6.out)⟩
      case measure => simp only [lenV9]; omega
      go_simp
      refine hK.out _ _ (HSA.out _ HBR.out) (fun hHeld => ?_)
      clear hK K
      try simp only [Act.put, List.setIfInBounds_toArray, List.set_cons_zero, List.set_cons_succ]
      refine wpAnyH_ready (rs := [1]) (by kernel_rfl) (by simp) ?_
      refine AllReadyH.cons (o := ({ dst := some 28, op := Op.load 22 (Operand.tmp 27), type := 22, pos := "branch.go:26", after := #[{ on := 0, ground := Ground.data }], guard := none } : Oper)) rfl (fun K hK => ?_) AllReadyH.nil
      go_simp
      refine hK.out _ _ (HSA.out _ HBR.out) (fun hHeld => ?_)
      clear hK K
      try simp only [Act.put, List.setIfInBounds_toArray, List.set_cons_zero, List.set_cons_succ]
      refine wpAnyH_ready (rs := [12]) (by kernel_rfl) (by simp) ?_
      refine AllReadyH.cons (o := ({ dst := some 39, op := Op.call { callee := Callee.builtin Builtin.append, args := #[Operand.tmp 28, Operand.tmp 38], argTypes := #[22, 22] }, type := 22, pos := "branch.go:26", after := #[{ on := 1, ground := Ground.data }, { on := 11, ground := Ground.data }], guard := none } : Oper)) rfl (fun K hK => ?_) AllReadyH.nil
      refine Kd.R_append_step kH (W := wr.drew) (w0 := wr) (w.heap.size + 2) (by rfl) (.tmp 28) (.tmp 38) 22 25 (.agg (nums .u8 (List.replicate 32 0)).toArray) 32 (by rfl) Tryd.underlying22 infoH3 rfl (by decide) (by decide) v pre (rdH (lev xs k) jj) P (fun _ => True) (fun _ => False) (by rfl) (by rfl) (HCM.out _) (fun _ h => h.elim) (fun _ _ => trivial) (Kd.R_drew HRV.out) (below_drew (Below.refl _ _)) HBS.out HTL.out ?_
      intro v4 w4 ho hb hg hat
      have HA4 := Lib.hid (HAFTER.out v4 w4 ho hb hg hat)
      clear ho hb hg hat
      refine hK.out _ _ (HA4.out.1) (fun hHeld => ?_)
      clear hK K
      try simp only [Act.put, List.setIfInBounds_toArray, List.set_cons_zero, List.set_cons_succ]
      have hst := HA4.out.2.1
      refine wpAnyH_take (i := 13) (oi := ({ dst := some 40, op := Op.fieldAddr 41 (Operand.tmp 6) 2, type := 0, pos := "branch.go:26", after := #[{ on := 0, ground := Ground.phase }, { on := 1, ground := Ground.phase }, { on := 2, ground := Ground.phase }, { on := 3, ground := Ground.phase }, { on := 4, ground := Ground.phase }, { on := 5, ground := Ground.phase }, { on := 6, ground := Ground.phase }, { on := 7, ground := Ground.phase }, { on := 8, ground := Ground.phase }, { on := 9, ground := Ground.phase }, { on := 10, ground := Ground.phase }, { on := 11, ground := Ground.phase }, { on := 12, ground := Ground.phase }], guard := none } : Oper)) (v := .pointer (some ⟨w.heap.size + 1, 2, none⟩)) rfl (by kernel_rfl) (by kernel_rfl) (by kernel_rfl) (fun _ _ _ h => h) (Or.inl ⟨by rfl, fun w hSw => by go_simp⟩) hHeld ?_
      simp only [Act.put, List.setIfInBounds_toArray, List.set_cons_zero, List.set_cons_succ]
      refine wpAnyH_ready (rs := [14]) (by kernel_rfl) (by simp) ?_
      refine AllReadyH.cons (o := ({ dst := none, op := Op.store 22 (Operand.tmp 40) (Operand.tmp 39), type := 0, pos := "branch.go:26", after := #[{ on := 13, ground := Ground.data }, { on := 12, ground := Ground.data }, { on := 12, ground := Ground.chain }, { on := 0, ground := Ground.phase }, { on := 1, ground := Ground.phase }, { on := 2, ground := Ground.phase }, { on := 3, ground := Ground.phase }, { on := 4, ground := Ground.phase }, { on := 5, ground := Ground.phase }, { on := 6, ground := Ground.phase }, { on := 7, ground := Ground.phase }, { on := 8, ground := Ground.phase }, { on := 9, ground := Ground.phase }, { on := 10, ground := Ground.phase }, { on := 11, ground := Ground.phase }, { on := 12, ground := Ground.phase }], guard := none } : Oper)) rfl (fun K hK => ?_) AllReadyH.nil
      go_simp
      refine hK.out _ _ (HA4.out.2.2.1) (fun hHeld => ?_)
      clear hK K
      try simp only [Act.put, List.setIfInBounds_toArray, List.set_cons_zero, List.set_cons_succ]
      refine wpAnyH_done (by kernel_rfl) ?_ _
      clear hst hHeld hld1 hld2 hbs
      obtain ⟨W5, hW5⟩ : ∃ W, w4.setCell ⟨w.heap.size + 1, 2, none⟩ v4 = W := ⟨_, rfl⟩
      have HA5 := Lib.hid HA4.out.2.2.2
      rw [hW5] at HA5 ⊢
      have HAB := Lib.hid (above_new (some ⟨b, o, none⟩) ck W5 HREST.out.2.2.2.2.2.2 hl2 (lev_Hs HH.out k) (by omega) HA5.out.2.2.1 HCK.out (HK.out.below HA5.out.2.2.2.1 (Nat.le_refl _)))
      clear hW5 HA4
      go_wp2_with fail
      refine HAB.out.mono ?_
      rintro e w6 ⟨A6, c6, rfl, hc6, hC6, hn6, hb6⟩
      have HB6 := Lib.hid hb6
      have HC6 := Lib.hid (And.intro hc6 (And.intro hC6 hn6))
      clear hc6 hC6 hn6 hb6
      have hwj : wrap64 ((j : Int) / 2) = ((j / 2 : Nat) : Int) := by have hj7 := HREST.out.2.1; rw [IntWalk.wrap64_in _ ⟨by omega, by omega⟩]; omega
      go_wp2_with fail
      try rw [hwj]
      go_roundw
      case rel => exact ⟨k + 1, j / 2, A6, c6, by rw [show wideP n (k + 1) = l2 from by rw [← hl2, ← HREST.out.2.2.2.2.1]; rfl], by first | rfl | (congr 1 <;> omega), Lib.hid (HNEXT.out v4 W5 w6 A6 c6 HA5.out HC6.out HB6.out)⟩
      case measure => simp only [lenV9]; omega
    · have he : k = d := by
        rcases Nat.lt_or_ge k d with h | h
        · have := (depth_wide HD.out).2 k h
          omega
        · omega
      subst he
      have g1 : ¬ (1 : Int) < (l : Int) := by omega
      have hpath2 : pathF k xs i = pre := by rw [hpath, Nat.sub_self, pathF, List.append_nil]
      obtain ⟨A2, c2, rfl, hc2, hC2⟩ := Kd.R_reads hRv
      rw [hpl] at hc2 hC2 hBc hNE
      have HO := Lib.hid (show ∀ b o, A2 = some ⟨b, o, none⟩ → b ≠ w.heap.size from fun b o e => by subst e; have := Kd.R_base hRv b rfl; omega)
      have HIS := Lib.hid (show (Tryd.prog.info? 41).map (·.size) = some 3 from (zero_of_info infoB9).2)
      have HUN := Lib.hid Tryd.underlying41
      have HBC := Lib.hid hBc
      have HZC := Lib.hid hZc
      have HBW := Lib.hid hBw
      have HFIN := Lib.hid (show Kd.C kH (wr.setRow w.heap.size #[.int .i64 n, .int .i64 i, .slice A2 k c2]) A2 k (pathF k xs i) from by
        rw [hpath2]
        have h := C_setRow (g := w.heap.size) (cs := #[.int .i64 n, .int .i64 i, .slice A2 k c2]) (by rw [hpl]; exact hC2) (fun p hp => by rw [← hpath2] at hp; exact (pathF_Hs k xs i HH.out p hp).1) HO.out
        rw [hpl] at h
        exact h)
      clear hkd hj hpath hpl hBc hZc hck hC hBw hRv H hNE hC2 hpath2
      go_wp2_with (first
        | ((with_reducible show wpList _ _ _ (Oper.mk _ (Op.load _ (.tmp 6)) _ _ _ _ :: _) _ _); (go_loud (refine wpList_load_row rfl 41 (.tmp 6) rfl (w.heap.size + 1) rfl 41 #[.int .i64 n, .int .i64 i, .slice A2 k c2] (0, 0) _ HBC.out HUN.out rfl HIS.out ?_)))
        | ((with_reducible show wpList _ _ _ (Oper.mk _ (Op.store _ (.tmp 4) _) _ _ _ _ :: _) _ _); (go_loud (refine wpList_store_row rfl 41 (.tmp 4) (.tmp 45) rfl w.heap.size #[.int .i64 n, .int .i64 i, .slice A2 k c2] rfl rfl 41 #[.int .i64 0, .int .i64 0, .slice none 0 0] HZC.out HIS.out rfl (by simp [Value.oneCell']) ?_))))
      exact bodyPost_ret (results_ct rfl _ _ w.heap.size 41 #[.int .i64 n, .int .i64 i, .slice A2 k c2] (0, 0) _ rfl (setRow_heap _ _ _ _ _ _ HZC.out) HUN.out rfl HIS.out) rfl ⟨A2, c2, rfl, hc2, HFIN.out, below_setRow HBW.out (Nat.le_refl _) _⟩
end Go.Proofs.YtlmcdkjobdcflaaDoor.Hand

/- The branches' awake: walked. -/
namespace Go.Proofs.YtlmcdkjobdcflaaDoor.Hand
open Go Go.RowKit Go.Proofs.YtlmcdkjobdcflaaDoor.Plain Go.Proofs.YtlmcdkjobdcflaaDoor.PAll Go.Proofs.YtlmcdkjobdcflaaDoorW.PrintWords Go.Proofs.YtlmcdkjobdcflaaDoorW.PrintLast Go.Proofs.YtlmcdkjobdcflaaDoorW.PrintMore
set_option linter.unusedVariables false
set_option linter.unusedSimpArgs false
set_option maxRecDepth 100000
attribute [local go_sem ↓] Go.wp_at_zero Go.wp_at_succ
attribute [-go_sem] loadVar storeVar Instr.buildSlice
theorem doub3 : doubP [smallH 1, smallH 2, smallH 3] = false := by decide +kernel
theorem depth3 : IsDepth 3 2 := ⟨by decide, fun i hi => by
  obtain rfl | rfl : i = 0 ∨ i = 1 := by omega
  · decide
  · decide⟩
theorem run_hash3 (x y z : Int) (W : World) : (Instr.buildSlice 22 3 #[(0, .agg (nums .u8 (smallH x)).toArray), (1, .agg (nums .u8 (smallH y)).toArray), (2, .agg (nums .u8 (smallH z)).toArray)]).run Tryd.prog W = .ok (.slice (some ⟨W.heap.size, 0, none⟩) 3 3) (W.alloc (.cells (hcs [smallH x, smallH y, smallH z]).toArray 25)) := by
  kernel_rfl
set_option maxHeartbeats 4000000 in
theorem awake9_calls (w : World) (hK : KT w) : Calls Tryd.prog 29 #[] w fun e w' => e = .returned (.bool true) ∧ Below w.heap.size w w' := by
  have hbu1 := built_small 1
  have hbu2 := built_small 2
  have hbu3 := built_small 3
  have hsa := smallH_hash (x := 1) (by omega)
  have hsb := smallH_hash (x := 2) (by omega)
  have hsc := smallH_hash (x := 3) (by omega)
  have hr3 := fun u => run_hash3 1 2 3 u
  have hdb := doub3
  obtain ⟨a, hae⟩ : ∃ p, smallH 1 = p := ⟨_, rfl⟩
  obtain ⟨b, hbe⟩ : ∃ p, smallH 2 = p := ⟨_, rfl⟩
  obtain ⟨c, hce⟩ : ∃ p, smallH 3 = p := ⟨_, rfl⟩
  rw [hae] at hbu1 hsa hr3 hdb
  rw [hbe] at hbu2 hsb hr3 hdb
  rw [hce] at hbu3 hsc hr3 hdb
  clear hae hbe hce
  have hH : Hs [a, b, c] := by
    intro p hp
    rcases (by simpa using hp : p = a ∨ p = b ∨ p = c) with rfl | rfl | rfl
    · exact hsa
    · exact hsb
    · exact hsc
  have hp0 : rdH (pathF 2 [a, b, c] 2) 0 = c := by
    rw [pathF]
    rfl
  have hck := checkP_own (xs := [a, b, c]) (n := 3) (i := 2) rfl depth3 (by decide) (by decide) hdb
  have h32 : ∀ p ∈ [a, b, c], p.length = 32 := fun p hp => (hH p hp).1
  -- the list, wherever it is kept
  have HC := Lib.hid (fun (u : World) (g : Nat) (hg : u.heap[g]? = some (.cells (hcs [a, b, c]).toArray 25 (0, 0))) => (C_of_hcs (xs := [a, b, c]) hg h32 (by simp) : Kd.C kH u (some ⟨g, 0, none⟩) 3 [a, b, c]))
  have HMK := Lib.hid (fun (u : World) (g : Nat) (hg : u.heap[g]? = some (.cells (hcs [a, b, c]).toArray 25 (0, 0))) (hKu : KT u) => (show Calls Tryd.prog 30 #[.slice (some ⟨g, 0, none⟩) 3 3, .int .i64 2] u fun e w' => ∃ A2 c2, e = .returned (.tuple #[bV 3 2 A2 2 c2, .int .i64 0]) ∧ 2 ≤ c2 ∧ Kd.C kH w' A2 2 (pathF 2 [a, b, c] 2) ∧ Below u.heap.size u w' from
    make_calls (some ⟨g, 0, none⟩) 3 3 [a, b, c] 2 2 u rfl (HC.out u g hg) (Nat.le_refl _) (by decide) hH (by decide) depth3 hKu))
  have HRT := Lib.hid (fun (u : World) (g : Nat) (hg : u.heap[g]? = some (.cells (hcs [a, b, c]).toArray 25 (0, 0))) (hKu : KT u) => (root_calls (some ⟨g, 0, none⟩) 3 3 [a, b, c] u rfl (HC.out u g hg) (Nat.le_refl _) (by decide) hH hKu))
  have HCK := Lib.hid (fun (u : World) (A2 : Option Addr) (c2 : Nat) (h2 : 2 ≤ c2) (hC : Kd.C kH u A2 2 (pathF 2 [a, b, c] 2)) (hKu : KT u) => (show Calls Tryd.prog 33 #[bV 3 2 A2 2 c2, .agg (nums .u8 (rootP [a, b, c])).toArray, .agg (nums .u8 c).toArray] u fun e w' => e = .returned (.int .i64 0) ∧ Below u.heap.size u w' from by
    have h := check_calls 3 2 A2 2 c2 (pathF 2 [a, b, c] 2) (rootP [a, b, c]) c u rfl hC h2 (pathF_Hs 2 _ 2 hH) (rootP_hash hH).1 hsc.1 hsc.2 hKu (by decide) (by decide)
    rw [show checkP 3 2 (pathF 2 [a, b, c] 2) (rootP [a, b, c]) c = 0 from hck] at h
    exact h))
  have hA1 := nums_one .u8 c
  have hCl : (nums .u8 c).length = 32 := by rw [nums_len]; exact hsc.1
  have q1 := fun u => eqH c c hsc.1 hsc.1 u
  simp only [beq_self_eq_true] at q1
  have hRG := Lib.hid (fun (u : World) (g : Nat) (hg : u.heap[g]? = some (.cells (hcs [a, b, c]).toArray 25 (0, 0))) => (show u.rangeAt g 64 (nums .u8 c) from fun j v hj => by
    have h1 := hcs_get h32 2 j v (by simp) hj
    rw [blk_cell hg, List.getElem?_toArray]
    exact h1))
  have hRP := Lib.hid (fun (u : World) (A2 : Option Addr) (hC : Kd.C kH u A2 2 (pathF 2 [a, b, c] 2)) => (show ∃ b2 o2, A2 = some ⟨b2, o2, none⟩ ∧ b2 < u.heap.size ∧ u.rangeAt b2 o2 (nums .u8 c) from by
    obtain ⟨b2, o2, rfl, hlt, hrg⟩ := C_hash (w := u) (A := A2) (xs := pathF 2 [a, b, c] 2) (by rw [pathF_len]; exact hC) (by rw [pathF_len]; decide)
    have h := (hrg 0 (by rw [pathF_len]; decide)).1
    rw [hp0, Nat.zero_mul, Nat.add_zero] at h
    exact ⟨b2, o2, rfl, hlt, h⟩))
  obtain ⟨R, hR⟩ : ∃ R, (nums .u8 (rootP [a, b, c])).toArray = R := ⟨_, rfl⟩
  obtain ⟨C, hCC⟩ : ∃ C, nums .u8 c = C := ⟨_, rfl⟩
  obtain ⟨L3, hL3⟩ : ∃ L, (hcs [a, b, c]).toArray = L := ⟨_, rfl⟩
  obtain ⟨XA, hXA⟩ : ∃ X, (nums .u8 a).toArray = X := ⟨_, rfl⟩
  obtain ⟨XB, hXB⟩ : ∃ X, (nums .u8 b).toArray = X := ⟨_, rfl⟩
  rw [hXA] at hbu1 hr3
  rw [hXB] at hbu2 hr3
  rw [hR] at HRT HCK
  rw [hCC] at HCK hA1 hCl q1 hRG hRP hbu3 hr3
  rw [hL3] at HC HMK HRT hRG hr3
  obtain ⟨PX, hPX⟩ : ∃ p, pathF 2 [a, b, c] 2 = p := ⟨_, rfl⟩
  rw [hPX] at HMK HCK hRP
  have hu := Tryd.underlying25
  have hi1 : (Tryd.prog.info? 25).map (·.size) = some C.length := by rw [hCl]; exact (zero_of_info infoHash).2
  have HBU := Lib.hid (And.intro hbu1 (And.intro hbu2 hbu3))
  have HI9 := Lib.hid (And.intro Tryd.underlying41 (zero_of_info infoB9).2)
  have HGL := Lib.hid (heap_alloc_new w (.cells L3 25))
  have HB1 := Lib.hid (below_alloc (Below.refl w.heap.size w) (.cells L3 25))
  have HMK1 := Lib.hid (HMK.out _ _ HGL.out (hK.below HB1.out (Nat.le_refl _)))
  have HK := Lib.hid hK
  have hz9 := (zero_of_info infoB9).1
  have HCL := Lib.hid hCl
  clear hbu1 hbu2 hbu3 hsa hsb hsc hdb hH hp0 hck h32 hA1 hCl hR hCC hL3 hXA hXB hPX HC HMK hK
  unfold bV at HMK1 HCK
  go_enter Tryd.func29, Tryd.ntmps29
  go_wp2_with (first
    | ((with_reducible show wpList _ _ _ (Oper.mk _ (Op.build _ #[(0, .const (.int .u8 1))]) _ _ _ _ :: _) _ _); (go_loud (refine wpl_build rfl 25 _ rfl #[(0, .int .u8 1)] (by simp [Act.eval]) XA HBU.out.1 ?_)))
    | ((with_reducible show wpList _ _ _ (Oper.mk _ (Op.build _ #[(0, .const (.int .u8 2))]) _ _ _ _ :: _) _ _); (go_loud (refine wpl_build rfl 25 _ rfl #[(0, .int .u8 2)] (by simp [Act.eval]) XB HBU.out.2.1 ?_)))
    | ((with_reducible show wpList _ _ _ (Oper.mk _ (Op.build _ _) _ _ _ _ :: _) _ _); (go_loud (refine wpl_build rfl 25 _ rfl #[(0, .int .u8 3)] (by simp [Act.eval]) C.toArray HBU.out.2.2 ?_))))
  refine HMK1.out.mono ?_
  rintro e w1 ⟨A2, c2, rfl, hc2, hC2, hb1⟩
  obtain ⟨b2, o2, rfl, hlt2, hrg2⟩ := hRP.out w1 A2 hC2
  have hg1 := (hb1.block _ (blk_lt HGL.out)).trans HGL.out
  have HW2 := Lib.hid (HB1.out.trans (Below.mono hb1 HB1.out.size))
  have hk0 := heap_alloc_new w1 (.cells #[.int .i64 3, .int .i64 2, .slice (some ⟨b2, o2, none⟩) 2 c2] 41)
  have hb2 := below_alloc (Below.refl w1.heap.size w1) (.cells #[.int .i64 3, .int .i64 2, .slice (some ⟨b2, o2, none⟩) 2 c2] 41)
  obtain ⟨W2, hW2⟩ : ∃ W, w1.alloc (.cells #[.int .i64 3, .int .i64 2, .slice (some ⟨b2, o2, none⟩) 2 c2] 41) = W := ⟨_, rfl⟩
  rw [hW2] at hk0 hb2
  have hsz := hb2.size
  have HWW := Lib.hid (HW2.out.trans (Below.mono hb2 HW2.out.size))
  have HSS := Lib.hid (show ∀ u : World, Below W2.heap.size W2 u → u.rangeAt b2 o2 C ∧ u.rangeAt w.heap.size 64 C ∧ (loadVar 3 ⟨w1.heap.size, 0, none⟩).run Tryd.prog u = .ok (.int .i64 3) u ∧ (loadVar 3 ⟨w1.heap.size, 1, none⟩).run Tryd.prog u = .ok (.int .i64 2) u ∧ (loadVar 22 ⟨w1.heap.size, 2, none⟩).run Tryd.prog u = .ok (.slice (some ⟨b2, o2, none⟩) 2 c2) u ∧ (loadVar 41 ⟨w1.heap.size, 0, none⟩).run Tryd.prog u = .ok (.agg #[.int .i64 3, .int .i64 2, .slice (some ⟨b2, o2, none⟩) 2 c2]) u from fun u hu => by
    have h9 := (hu.block _ (blk_lt hk0)).trans hk0
    have hB : Below w1.heap.size w1 u := hb2.trans (Below.mono hu hsz)
    refine ⟨range_below hB hlt2 hrg2, hRG.out u w.heap.size ((hB.block _ (blk_lt hg1)).trans hg1), run_load_i64 _ _ _ ((blk_cell h9 0).trans rfl), run_load_i64 _ _ _ ((blk_cell h9 1).trans rfl), run_load_hs _ _ _ ((blk_cell h9 2).trans rfl), run_loadVar_row (P := Tryd.prog) u w1.heap.size 41 41 _ (0, 0) _ h9 HI9.out.1 rfl HI9.out.2⟩)
  have HCC := Lib.hid (show ∀ u : World, Below W2.heap.size W2 u → Kd.C kH u (some ⟨b2, o2, none⟩) 2 PX ∧ KT u ∧ u.heap[w.heap.size]? = some (.cells L3 25 (0, 0)) from fun u hu => by
    have hB : Below w1.heap.size w1 u := hb2.trans (Below.mono hu hsz)
    exact ⟨Kd.C_below hC2 hB, HK.out.below (HW2.out.trans (Below.mono hB HW2.out.size)) (Nat.le_refl _), (hB.block _ (blk_lt hg1)).trans hg1⟩)
  have HW := Lib.hid hW2
  have HC2 := Lib.hid hc2
  clear hg1 hk0 hb2 hsz hW2 hc2 hb1 hlt2 hrg2 hC2 hRG hRP
  go_wp2_with ((with_reducible show wpList _ _ _ (Oper.mk _ (Op.store _ (.tmp 2) _) _ _ _ _ :: _) _ _); (go_loud (refine wpl_store_new rfl 41 (.tmp 2) (.tmp 11) rfl #[.int .i64 0, .int .i64 0, .slice none 0 0] #[.int .i64 3, .int .i64 2, .slice (some ⟨b2, o2, none⟩) 2 c2] rfl rfl HI9.out.2 rfl (by simp [Value.oneCell']) ?_)))
  rw [HW.out]
  have HB0 := Lib.hid (below_drew (Below.refl W2.heap.size W2))
  have HTR := Lib.hid (show ∀ u u' : World, Below W2.heap.size W2 u → Below u.heap.size u u' → Below W2.heap.size W2 u' from fun u u' hu hu' => hu.trans (Below.mono hu' hu.size))
  refine wp_region_held (S := fun u => u.rangeAt b2 o2 C ∧ u.rangeAt w.heap.size 64 C ∧ (loadVar 3 ⟨w1.heap.size, 0, none⟩).run Tryd.prog u = .ok (.int .i64 3) u ∧ (loadVar 3 ⟨w1.heap.size, 1, none⟩).run Tryd.prog u = .ok (.int .i64 2) u ∧ (loadVar 22 ⟨w1.heap.size, 2, none⟩).run Tryd.prog u = .ok (.slice (some ⟨b2, o2, none⟩) 2 c2) u ∧ (loadVar 41 ⟨w1.heap.size, 0, none⟩).run Tryd.prog u = .ok (.agg #[.int .i64 3, .int .i64 2, .slice (some ⟨b2, o2, none⟩) 2 c2]) u) (by kernel_rfl) ?_
  change wpAnyH _ _ _ _ _ _ _ _ (World.drew _)
  have hHeld := HSS.out _ HB0.out
  refine wpAnyH_take (i := 0) (oi := ({ dst := some 13, op := Op.move (Operand.tmp 3), type := 42, pos := "law.go:16", after := #[], guard := none } : Oper)) (v := .int .i64 0) rfl (by kernel_rfl) (by kernel_rfl) (by kernel_rfl) (fun _ _ _ h => h) (Or.inl ⟨by rfl, fun w hSw => by go_simp⟩) hHeld ?_
  simp only [Act.put, List.setIfInBounds_toArray, List.set_cons_zero, List.set_cons_succ]
  refine wpAnyH_take (i := 1) (oi := ({ dst := some 14, op := Op.binOp BinOp.eql 42 (Operand.tmp 13) (Operand.const (Value.int IntKind.i64 0)) 42, type := 4, pos := "law.go:16", after := #[{ on := 0, ground := Ground.data }], guard := none } : Oper)) (v := .bool true) rfl (by kernel_rfl) (by kernel_rfl) (by kernel_rfl) (fun _ _ _ h => h) (Or.inl ⟨by rfl, fun w hSw => by go_simp⟩) hHeld ?_
  simp only [Act.put, List.setIfInBounds_toArray, List.set_cons_zero, List.set_cons_succ]
  refine wpAnyH_take (i := 2) (oi := ({ dst := some 15, op := Op.move (Operand.tmp 14), type := 4, pos := "law.go:16", after := #[{ on := 1, ground := Ground.data }], guard := none } : Oper)) (v := .bool true) rfl (by kernel_rfl) (by kernel_rfl) (by kernel_rfl) (fun _ _ _ h => h) (Or.inl ⟨by rfl, fun w hSw => by go_simp⟩) hHeld ?_
  simp only [Act.put, List.setIfInBounds_toArray, List.set_cons_zero, List.set_cons_succ]
  refine wpAnyH_take (i := 3) (oi := ({ dst := some 16, op := Op.fieldAddr 41 (Operand.tmp 2) 0, type := 0, pos := "law.go:16", after := #[{ on := 2, ground := Ground.guard }], guard := some (2, true) } : Oper)) (v := .pointer (some ⟨w1.heap.size, 0, none⟩)) rfl (by kernel_rfl) (by kernel_rfl) (by kernel_rfl) (fun _ _ _ h => h) (Or.inl ⟨by rfl, fun w hSw => by go_simp⟩) hHeld ?_
  simp only [Act.put, List.setIfInBounds_toArray, List.set_cons_zero, List.set_cons_succ]
  refine wpAnyH_take (i := 4) (oi := ({ dst := some 17, op := Op.load 3 (Operand.tmp 16), type := 3, pos := "law.go:16", after := #[{ on := 3, ground := Ground.data }, { on := 2, ground := Ground.guard }], guard := some (2, true) } : Oper)) (v := .int .i64 3) rfl (by kernel_rfl) (by kernel_rfl) (by kernel_rfl) (fun _ _ _ h => h) (Or.inl ⟨by rfl, fun w hSw => by obtain ⟨z0, z1, z2, z3, z4, z5⟩ := hSw; go_simp⟩) hHeld ?_
  simp only [Act.put, List.setIfInBounds_toArray, List.set_cons_zero, List.set_cons_succ]
  refine wpAnyH_take (i := 5) (oi := ({ dst := some 18, op := Op.binOp BinOp.eql 3 (Operand.tmp 17) (Operand.const (Value.int IntKind.i64 3)) 3, type := 4, pos := "law.go:16", after := #[{ on := 4, ground := Ground.data }, { on := 2, ground := Ground.guard }], guard := some (2, true) } : Oper)) (v := .bool true) rfl (by kernel_rfl) (by kernel_rfl) (by kernel_rfl) (fun _ _ _ h => h) (Or.inl ⟨by rfl, fun w hSw => by go_simp⟩) hHeld ?_
  simp only [Act.put, List.setIfInBounds_toArray, List.set_cons_zero, List.set_cons_succ]
  refine wpAnyH_take (i := 6) (oi := ({ dst := some 19, op := Op.pick (Operand.tmp 15) (Operand.tmp 18) (Operand.const (Value.bool false)), type := 4, pos := "law.go:16", after := #[{ on := 2, ground := Ground.data }, { on := 5, ground := Ground.data }], guard := none } : Oper)) (v := .bool true) rfl (by kernel_rfl) (by kernel_rfl) (by kernel_rfl) (fun _ _ _ h => h) (Or.inl ⟨by rfl, fun w hSw => by go_simp⟩) hHeld ?_
  simp only [Act.put, List.setIfInBounds_toArray, List.set_cons_zero, List.set_cons_succ]
  refine wpAnyH_take (i := 7) (oi := ({ dst := some 20, op := Op.move (Operand.tmp 19), type := 4, pos := "law.go:16", after := #[{ on := 6, ground := Ground.data }, { on := 2, ground := Ground.chain }], guard := none } : Oper)) (v := .bool true) rfl (by kernel_rfl) (by kernel_rfl) (by kernel_rfl) (fun _ _ _ h => h) (Or.inl ⟨by rfl, fun w hSw => by go_simp⟩) hHeld ?_
  simp only [Act.put, List.setIfInBounds_toArray, List.set_cons_zero, List.set_cons_succ]
  refine wpAnyH_take (i := 8) (oi := ({ dst := some 21, op := Op.fieldAddr 41 (Operand.tmp 2) 1, type := 0, pos := "law.go:16", after := #[{ on := 7, ground := Ground.guard }], guard := some (7, true) } : Oper)) (v := .pointer (some ⟨w1.heap.size, 1, none⟩)) rfl (by kernel_rfl) (by kernel_rfl) (by kernel_rfl) (fun _ _ _ h => h) (Or.inl ⟨by rfl, fun w hSw => by go_simp⟩) hHeld ?_
  simp only [Act.put, List.setIfInBounds_toArray, List.set_cons_zero, List.set_cons_succ]
  refine wpAnyH_take (i := 9) (oi := ({ dst := some 22, op := Op.load 3 (Operand.tmp 21), type := 3, pos := "law.go:16", after := #[{ on := 8, ground := Ground.data }, { on := 7, ground := Ground.guard }], guard := some (7, true) } : Oper)) (v := .int .i64 2) rfl (by kernel_rfl) (by kernel_rfl) (by kernel_rfl) (fun _ _ _ h => h) (Or.inl ⟨by rfl, fun w hSw => by obtain ⟨z0, z1, z2, z3, z4, z5⟩ := hSw; go_simp⟩) hHeld ?_
  simp only [Act.put, List.setIfInBounds_toArray, List.set_cons_zero, List.set_cons_succ]
  refine wpAnyH_take (i := 10) (oi := ({ dst := some 23, op := Op.binOp BinOp.eql 3 (Operand.tmp 22) (Operand.const (Value.int IntKind.i64 2)) 3, type := 4, pos := "law.go:16", after := #[{ on := 9, ground := Ground.data }, { on := 7, ground := Ground.guard }], guard := some (7, true) } : Oper)) (v := .bool true) rfl (by kernel_rfl) (by kernel_rfl) (by kernel_rfl) (fun _ _ _ h => h) (Or.inl ⟨by rfl, fun w hSw => by go_simp⟩) hHeld ?_
  simp only [Act.put, List.setIfInBounds_toArray, List.set_cons_zero, List.set_cons_succ]
  refine wpAnyH_take (i := 11) (oi := ({ dst := some 24, op := Op.pick (Operand.tmp 20) (Operand.tmp 23) (Operand.const (Value.bool false)), type := 4, pos := "law.go:16", after := #[{ on := 7, ground := Ground.data }, { on := 10, ground := Ground.data }], guard := none } : Oper)) (v := .bool true) rfl (by kernel_rfl) (by kernel_rfl) (by kernel_rfl) (fun _ _ _ h => h) (Or.inl ⟨by rfl, fun w hSw => by go_simp⟩) hHeld ?_
  simp only [Act.put, List.setIfInBounds_toArray, List.set_cons_zero, List.set_cons_succ]
  refine wpAnyH_take (i := 12) (oi := ({ dst := some 25, op := Op.move (Operand.tmp 24), type := 4, pos := "law.go:16", after := #[{ on := 11, ground := Ground.data }, { on := 7, ground := Ground.chain }], guard := none } : Oper)) (v := .bool true) rfl (by kernel_rfl) (by kernel_rfl) (by kernel_rfl) (fun _ _ _ h => h) (Or.inl ⟨by rfl, fun w hSw => by go_simp⟩) hHeld ?_
  simp only [Act.put, List.setIfInBounds_toArray, List.set_cons_zero, List.set_cons_succ]
  refine wpAnyH_take (i := 13) (oi := ({ dst := some 26, op := Op.fieldAddr 41 (Operand.tmp 2) 2, type := 0, pos := "law.go:16", after := #[{ on := 12, ground := Ground.guard }], guard := some (12, true) } : Oper)) (v := .pointer (some ⟨w1.heap.size, 2, none⟩)) rfl (by kernel_rfl) (by kernel_rfl) (by kernel_rfl) (fun _ _ _ h => h) (Or.inl ⟨by rfl, fun w hSw => by go_simp⟩) hHeld ?_
  simp only [Act.put, List.setIfInBounds_toArray, List.set_cons_zero, List.set_cons_succ]
  refine wpAnyH_take (i := 14) (oi := ({ dst := some 27, op := Op.load 22 (Operand.tmp 26), type := 22, pos := "law.go:16", after := #[{ on := 13, ground := Ground.data }, { on := 12, ground := Ground.guard }], guard := some (12, true) } : Oper)) (v := .slice (some ⟨b2, o2, none⟩) 2 c2) rfl (by kernel_rfl) (by kernel_rfl) (by kernel_rfl) (fun _ _ _ h => h) (Or.inl ⟨by rfl, fun w hSw => by obtain ⟨z0, z1, z2, z3, z4, z5⟩ := hSw; go_simp⟩) hHeld ?_
  simp only [Act.put, List.setIfInBounds_toArray, List.set_cons_zero, List.set_cons_succ]
  refine wpAnyH_take (i := 15) (oi := ({ dst := some 28, op := Op.call { callee := Callee.builtin Builtin.len, args := #[Operand.tmp 27], argTypes := #[22] }, type := 3, pos := "law.go:16", after := #[{ on := 14, ground := Ground.data }, { on := 12, ground := Ground.guard }], guard := some (12, true) } : Oper)) (v := .int .i64 2) rfl (by kernel_rfl) (by kernel_rfl) (by kernel_rfl) (fun _ _ _ h => h) (Or.inl ⟨by rfl, fun w hSw => by go_simp⟩) hHeld ?_
  simp only [Act.put, List.setIfInBounds_toArray, List.set_cons_zero, List.set_cons_succ]
  refine wpAnyH_take (i := 16) (oi := ({ dst := some 29, op := Op.binOp BinOp.eql 3 (Operand.tmp 28) (Operand.const (Value.int IntKind.i64 2)) 3, type := 4, pos := "law.go:16", after := #[{ on := 15, ground := Ground.data }, { on := 12, ground := Ground.guard }], guard := some (12, true) } : Oper)) (v := .bool true) rfl (by kernel_rfl) (by kernel_rfl) (by kernel_rfl) (fun _ _ _ h => h) (Or.inl ⟨by rfl, fun w hSw => by go_simp⟩) hHeld ?_
  simp only [Act.put, List.setIfInBounds_toArray, List.set_cons_zero, List.set_cons_succ]
  refine wpAnyH_take (i := 17) (oi := ({ dst := some 30, op := Op.pick (Operand.tmp 25) (Operand.tmp 29) (Operand.const (Value.bool false)), type := 4, pos := "law.go:16", after := #[{ on := 12, ground := Ground.data }, { on := 16, ground := Ground.data }], guard := none } : Oper)) (v := .bool true) rfl (by kernel_rfl) (by kernel_rfl) (by kernel_rfl) (fun _ _ _ h => h) (Or.inl ⟨by rfl, fun w hSw => by go_simp⟩) hHeld ?_
  simp only [Act.put, List.setIfInBounds_toArray, List.set_cons_zero, List.set_cons_succ]
  refine wpAnyH_take (i := 18) (oi := ({ dst := some 31, op := Op.move (Operand.tmp 30), type := 4, pos := "law.go:16", after := #[{ on := 17, ground := Ground.data }, { on := 12, ground := Ground.chain }], guard := none } : Oper)) (v := .bool true) rfl (by kernel_rfl) (by kernel_rfl) (by kernel_rfl) (fun _ _ _ h => h) (Or.inl ⟨by rfl, fun w hSw => by go_simp⟩) hHeld ?_
  simp only [Act.put, List.setIfInBounds_toArray, List.set_cons_zero, List.set_cons_succ]
  refine wpAnyH_take (i := 19) (oi := ({ dst := some 32, op := Op.fieldAddr 41 (Operand.tmp 2) 2, type := 0, pos := "law.go:16", after := #[{ on := 18, ground := Ground.guard }], guard := some (18, true) } : Oper)) (v := .pointer (some ⟨w1.heap.size, 2, none⟩)) rfl (by kernel_rfl) (by kernel_rfl) (by kernel_rfl) (fun _ _ _ h => h) (Or.inl ⟨by rfl, fun w hSw => by go_simp⟩) hHeld ?_
  simp only [Act.put, List.setIfInBounds_toArray, List.set_cons_zero, List.set_cons_succ]
  refine wpAnyH_take (i := 20) (oi := ({ dst := some 33, op := Op.load 22 (Operand.tmp 32), type := 22, pos := "law.go:16", after := #[{ on := 19, ground := Ground.data }, { on := 18, ground := Ground.guard }], guard := some (18, true) } : Oper)) (v := .slice (some ⟨b2, o2, none⟩) 2 c2) rfl (by kernel_rfl) (by kernel_rfl) (by kernel_rfl) (fun _ _ _ h => h) (Or.inl ⟨by rfl, fun w hSw => by obtain ⟨z0, z1, z2, z3, z4, z5⟩ := hSw; go_simp⟩) hHeld ?_
  simp only [Act.put, List.setIfInBounds_toArray, List.set_cons_zero, List.set_cons_succ]
  refine wpAnyH_take (i := 21) (oi := ({ dst := some 34, op := Op.indexAddr 22 (Operand.tmp 33) (Operand.const (Value.int IntKind.i64 0)), type := 0, pos := "law.go:16", after := #[{ on := 20, ground := Ground.data }, { on := 18, ground := Ground.guard }], guard := some (18, true) } : Oper)) (v := .pointer (some ⟨b2, o2, none⟩)) rfl (by kernel_rfl) (by kernel_rfl) (by kernel_rfl) (fun _ _ _ h => h) (Or.inl ⟨by rfl, fun w hSw => by go_simp⟩) hHeld ?_
  simp only [Act.put, List.setIfInBounds_toArray, List.set_cons_zero, List.set_cons_succ]
  refine wpAnyH_take (i := 22) (oi := ({ dst := some 35, op := Op.load 25 (Operand.tmp 34), type := 25, pos := "law.go:16", after := #[{ on := 21, ground := Ground.data }, { on := 18, ground := Ground.guard }], guard := some (18, true) } : Oper)) (v := .agg C.toArray) rfl (by kernel_rfl) (by kernel_rfl) (by kernel_rfl) (fun _ _ _ h => h) (yieldsIf_load_mid (by rfl) _ _ rfl b2 o2 rfl C _ (fun _ h => h.1) hu rfl hi1) hHeld ?_
  simp only [Act.put, List.setIfInBounds_toArray, List.set_cons_zero, List.set_cons_succ]
  refine wpAnyH_take (i := 23) (oi := ({ dst := some 36, op := Op.move (Operand.tmp 1), type := 22, pos := "law.go:16", after := #[{ on := 18, ground := Ground.guard }], guard := some (18, true) } : Oper)) (v := .slice (some ⟨w.heap.size, 0, none⟩) 3 3) rfl (by kernel_rfl) (by kernel_rfl) (by kernel_rfl) (fun _ _ _ h => h) (Or.inl ⟨by rfl, fun w hSw => by go_simp⟩) hHeld ?_
  simp only [Act.put, List.setIfInBounds_toArray, List.set_cons_zero, List.set_cons_succ]
  refine wpAnyH_take (i := 24) (oi := ({ dst := some 37, op := Op.indexAddr 22 (Operand.tmp 36) (Operand.const (Value.int IntKind.i64 2)), type := 0, pos := "law.go:16", after := #[{ on := 23, ground := Ground.data }, { on := 18, ground := Ground.guard }], guard := some (18, true) } : Oper)) (v := .pointer (some ⟨w.heap.size, 64, none⟩)) rfl (by kernel_rfl) (by kernel_rfl) (by kernel_rfl) (fun _ _ _ h => h) (Or.inl ⟨by rfl, fun w hSw => by go_simp⟩) hHeld ?_
  simp only [Act.put, List.setIfInBounds_toArray, List.set_cons_zero, List.set_cons_succ]
  refine wpAnyH_take (i := 25) (oi := ({ dst := some 38, op := Op.load 25 (Operand.tmp 37), type := 25, pos := "law.go:16", after := #[{ on := 24, ground := Ground.data }, { on := 18, ground := Ground.guard }], guard := some (18, true) } : Oper)) (v := .agg C.toArray) rfl (by kernel_rfl) (by kernel_rfl) (by kernel_rfl) (fun _ _ _ h => h) (yieldsIf_load_mid (by rfl) _ _ rfl w.heap.size 64 rfl C _ (fun _ h => h.2.1) hu rfl hi1) hHeld ?_
  simp only [Act.put, List.setIfInBounds_toArray, List.set_cons_zero, List.set_cons_succ]
  refine wpAnyH_take (i := 26) (oi := ({ dst := some 39, op := Op.binOp BinOp.eql 25 (Operand.tmp 35) (Operand.tmp 38) 25, type := 4, pos := "law.go:16", after := #[{ on := 22, ground := Ground.data }, { on := 25, ground := Ground.data }, { on := 18, ground := Ground.guard }], guard := some (18, true) } : Oper)) (v := .bool true) rfl (by kernel_rfl) (by kernel_rfl) (by kernel_rfl) (fun _ _ _ h => h) (Or.inl ⟨by rfl, fun w hSw => by go_simp⟩) hHeld ?_
  simp only [Act.put, List.setIfInBounds_toArray, List.set_cons_zero, List.set_cons_succ]
  refine wpAnyH_take (i := 27) (oi := ({ dst := some 40, op := Op.pick (Operand.tmp 31) (Operand.tmp 39) (Operand.const (Value.bool false)), type := 4, pos := "law.go:16", after := #[{ on := 18, ground := Ground.data }, { on := 26, ground := Ground.data }], guard := none } : Oper)) (v := .bool true) rfl (by kernel_rfl) (by kernel_rfl) (by kernel_rfl) (fun _ _ _ h => h) (Or.inl ⟨by rfl, fun w hSw => by go_simp⟩) hHeld ?_
  simp only [Act.put, List.setIfInBounds_toArray, List.set_cons_zero, List.set_cons_succ]
  refine wpAnyH_take (i := 28) (oi := ({ dst := some 41, op := Op.move (Operand.tmp 40), type := 4, pos := "law.go:16", after := #[{ on := 27, ground := Ground.data }, { on := 18, ground := Ground.chain }], guard := none } : Oper)) (v := .bool true) rfl (by kernel_rfl) (by kernel_rfl) (by kernel_rfl) (fun _ _ _ h => h) (Or.inl ⟨by rfl, fun w hSw => by go_simp⟩) hHeld ?_
  simp only [Act.put, List.setIfInBounds_toArray, List.set_cons_zero, List.set_cons_succ]
  refine wpAnyH_take (i := 29) (oi := ({ dst := some 42, op := Op.load 41 (Operand.tmp 2), type := 41, pos := "law.go:16", after := #[{ on := 28, ground := Ground.guard }], guard := some (28, true) } : Oper)) (v := .agg #[.int .i64 3, .int .i64 2, .slice (some ⟨b2, o2, none⟩) 2 c2]) rfl (by kernel_rfl) (by kernel_rfl) (by kernel_rfl) (fun _ _ _ h => h) (Or.inl ⟨by rfl, fun w hSw => by obtain ⟨z0, z1, z2, z3, z4, z5⟩ := hSw; go_simp⟩) hHeld ?_
  simp only [Act.put, List.setIfInBounds_toArray, List.set_cons_zero, List.set_cons_succ]
  refine wpAnyH_take (i := 30) (oi := ({ dst := some 43, op := Op.move (Operand.tmp 1), type := 22, pos := "law.go:16", after := #[{ on := 28, ground := Ground.guard }], guard := some (28, true) } : Oper)) (v := .slice (some ⟨w.heap.size, 0, none⟩) 3 3) rfl (by kernel_rfl) (by kernel_rfl) (by kernel_rfl) (fun _ _ _ h => h) (Or.inl ⟨by rfl, fun w hSw => by go_simp⟩) hHeld ?_
  simp only [Act.put, List.setIfInBounds_toArray, List.set_cons_zero, List.set_cons_succ]
  refine wpAnyH_take (i := 32) (oi := ({ dst := some 45, op := Op.move (Operand.tmp 1), type := 22, pos := "law.go:16", after := #[{ on := 28, ground := Ground.guard }], guard := some (28, true) } : Oper)) (v := .slice (some ⟨w.heap.size, 0, none⟩) 3 3) rfl (by kernel_rfl) (by kernel_rfl) (by kernel_rfl) (fun _ _ _ h => h) (Or.inl ⟨by rfl, fun w hSw => by go_simp⟩) hHeld ?_
  simp only [Act.put, List.setIfInBounds_toArray, List.set_cons_zero, List.set_cons_succ]
  refine wpAnyH_take (i := 33) (oi := ({ dst := some 46, op := Op.indexAddr 22 (Operand.tmp 45) (Operand.const (Value.int IntKind.i64 2)), type := 0, pos := "law.go:16", after := #[{ on := 32, ground := Ground.data }, { on := 28, ground := Ground.guard }], guard := some (28, true) } : Oper)) (v := .pointer (some ⟨w.heap.size, 64, none⟩)) rfl (by kernel_rfl) (by kernel_rfl) (by kernel_rfl) (fun _ _ _ h => h) (Or.inl ⟨by rfl, fun w hSw => by go_simp⟩) hHeld ?_
  simp only [Act.put, List.setIfInBounds_toArray, List.set_cons_zero, List.set_cons_succ]
  refine wpAnyH_take (i := 34) (oi := ({ dst := some 47, op := Op.load 25 (Operand.tmp 46), type := 25, pos := "law.go:16", after := #[{ on := 33, ground := Ground.data }, { on := 28, ground := Ground.guard }], guard := some (28, true) } : Oper)) (v := .agg C.toArray) rfl (by kernel_rfl) (by kernel_rfl) (by kernel_rfl) (fun _ _ _ h => h) (yieldsIf_load_mid (by rfl) _ _ rfl w.heap.size 64 rfl C _ (fun _ h => h.2.1) hu rfl hi1) hHeld ?_
  simp only [Act.put, List.setIfInBounds_toArray, List.set_cons_zero, List.set_cons_succ]
  refine wpAnyH_ready (rs := [31]) (by kernel_rfl) (by simp) ?_
  refine AllReadyH.cons (o := ({ dst := some 44, op := Op.call { callee := Callee.value (Operand.func 20), args := #[Operand.tmp 43], argTypes := #[22] }, type := 25, pos := "law.go:16", after := #[{ on := 30, ground := Ground.data }, { on := 28, ground := Ground.chain }, { on := 28, ground := Ground.guard }], guard := some (28, true) } : Oper)) rfl (fun K hK => ?_) AllReadyH.nil
  go_simp
  (with_reducible refine (HRT.out _ _ (HCC.out _ HB0.out).2.2 (HCC.out _ HB0.out).2.1).mono ?_)
  rintro e w3 ⟨rfl, hb3⟩
  have HB3 := Lib.hid (HTR.out _ _ HB0.out hb3)
  clear hb3
  go_wp2_with fail
  refine hK.out _ _ (HSS.out _ HB3.out) (fun hHeld => ?_)
  clear hK K
  try simp only [Act.put, List.setIfInBounds_toArray, List.set_cons_zero, List.set_cons_succ]
  refine wpAnyH_ready (rs := [35]) (by kernel_rfl) (by simp) ?_
  refine AllReadyH.cons (o := ({ dst := some 48, op := Op.call { callee := Callee.value (Operand.func 33), args := #[Operand.tmp 42, Operand.tmp 44, Operand.tmp 47], argTypes := #[41, 25, 25] }, type := 42, pos := "law.go:16", after := #[{ on := 29, ground := Ground.data }, { on := 31, ground := Ground.data }, { on := 34, ground := Ground.data }, { on := 31, ground := Ground.chain }, { on := 28, ground := Ground.guard }], guard := some (28, true) } : Oper)) rfl (fun K hK => ?_) AllReadyH.nil
  go_simp
  (with_reducible refine (HCK.out _ _ _ HC2.out (HCC.out _ HB3.out).1 (HCC.out _ HB3.out).2.1).mono ?_)
  rintro e w4 ⟨rfl, hb4⟩
  have HB4 := Lib.hid (HTR.out _ _ HB3.out hb4)
  clear hb4
  go_wp2_with fail
  refine hK.out _ _ (HSS.out _ HB4.out) (fun hHeld => ?_)
  clear hK K
  try simp only [Act.put, List.setIfInBounds_toArray, List.set_cons_zero, List.set_cons_succ]
  refine wpAnyH_take (i := 36) (oi := ({ dst := some 49, op := Op.binOp BinOp.eql 42 (Operand.tmp 48) (Operand.const (Value.int IntKind.i64 0)) 42, type := 4, pos := "law.go:16", after := #[{ on := 35, ground := Ground.data }, { on := 28, ground := Ground.guard }], guard := some (28, true) } : Oper)) (v := .bool true) rfl (by kernel_rfl) (by kernel_rfl) (by kernel_rfl) (fun _ _ _ h => h) (Or.inl ⟨by rfl, fun w hSw => by go_simp⟩) hHeld ?_
  simp only [Act.put, List.setIfInBounds_toArray, List.set_cons_zero, List.set_cons_succ]
  refine wpAnyH_take (i := 37) (oi := ({ dst := some 50, op := Op.pick (Operand.tmp 41) (Operand.tmp 49) (Operand.const (Value.bool false)), type := 4, pos := "law.go:16", after := #[{ on := 28, ground := Ground.data }, { on := 36, ground := Ground.data }], guard := none } : Oper)) (v := .bool true) rfl (by kernel_rfl) (by kernel_rfl) (by kernel_rfl) (fun _ _ _ h => h) (Or.inl ⟨by rfl, fun w hSw => by go_simp⟩) hHeld ?_
  simp only [Act.put, List.setIfInBounds_toArray, List.set_cons_zero, List.set_cons_succ]
  refine wpAnyH_take (i := 38) (oi := ({ dst := some 0, op := Op.assign (Operand.tmp 50), type := 4, pos := "law.go:16", after := #[{ on := 37, ground := Ground.data }, { on := 35, ground := Ground.chain }, { on := 0, ground := Ground.phase }, { on := 1, ground := Ground.phase }, { on := 2, ground := Ground.phase }, { on := 3, ground := Ground.phase }, { on := 4, ground := Ground.phase }, { on := 5, ground := Ground.phase }, { on := 6, ground := Ground.phase }, { on := 7, ground := Ground.phase }, { on := 8, ground := Ground.phase }, { on := 9, ground := Ground.phase }, { on := 10, ground := Ground.phase }, { on := 11, ground := Ground.phase }, { on := 12, ground := Ground.phase }, { on := 13, ground := Ground.phase }, { on := 14, ground := Ground.phase }, { on := 15, ground := Ground.phase }, { on := 16, ground := Ground.phase }, { on := 17, ground := Ground.phase }, { on := 18, ground := Ground.phase }, { on := 19, ground := Ground.phase }, { on := 20, ground := Ground.phase }, { on := 21, ground := Ground.phase }, { on := 22, ground := Ground.phase }, { on := 23, ground := Ground.phase }, { on := 24, ground := Ground.phase }, { on := 25, ground := Ground.phase }, { on := 26, ground := Ground.phase }, { on := 27, ground := Ground.phase }, { on := 28, ground := Ground.phase }, { on := 29, ground := Ground.phase }, { on := 30, ground := Ground.phase }, { on := 31, ground := Ground.phase }, { on := 32, ground := Ground.phase }, { on := 33, ground := Ground.phase }, { on := 34, ground := Ground.phase }, { on := 35, ground := Ground.phase }, { on := 36, ground := Ground.phase }, { on := 37, ground := Ground.phase }], guard := none } : Oper)) (v := .bool true) rfl (by kernel_rfl) (by kernel_rfl) (by kernel_rfl) (fun _ _ _ h => h) (Or.inl ⟨by rfl, fun w hSw => by go_simp⟩) hHeld ?_
  simp only [Act.put, List.setIfInBounds_toArray, List.set_cons_zero, List.set_cons_succ]
  refine wpAnyH_done (by kernel_rfl) ?_ _
  clear hHeld q1
  go_wp2
  go_ret
  exact ⟨rfl, HWW.out.trans (Below.mono HB4.out HWW.out.size)⟩
end Go.Proofs.YtlmcdkjobdcflaaDoor.Hand


/- A copy of a list, and one hash more: what is said of rows of hashes. -/
namespace Go.Proofs.YtlmcdkjobdcflaaDoor.Hand
open Go Go.RowKit Go.Proofs.YtlmcdkjobdcflaaDoor.Plain Go.Proofs.YtlmcdkjobdcflaaDoor.PAll Go.Proofs.YtlmcdkjobdcflaaDoorW.PrintWords Go.Proofs.YtlmcdkjobdcflaaDoorW.PrintLast Go.Proofs.YtlmcdkjobdcflaaDoorW.PrintMore
set_option linter.unusedVariables false
set_option linter.unusedSimpArgs false
set_option maxRecDepth 100000
attribute [local go_sem ↓] Go.wp_at_zero Go.wp_at_succ
attribute [-go_sem] loadVar storeVar Instr.buildSlice
theorem rdH_app {xs : List (List Int)} {p : List Int} {i : Nat} (h : i < xs.length) : rdH (xs ++ [p]) i = rdH xs i := by
  unfold rdH
  rw [List.getD_eq_getElem?_getD, List.getD_eq_getElem?_getD, List.getElem?_append_left h]
theorem rdH_last {xs : List (List Int)} {p : List Int} : rdH (xs ++ [p]) xs.length = p := by
  unfold rdH
  simp
theorem run_build0 (W : World) : (Instr.buildSlice 22 0 #[]).run Tryd.prog W = .ok (.slice (some ⟨W.heap.size, 0, none⟩) 0 0) (W.alloc (.cells #[] 25)) := by kernel_rfl
theorem empty_row (w W : World) (h : w.heap.size ≤ W.heap.size) : Kd.R kH 25 (W.alloc (.cells #[] 25)) w.heap.size (fun _ => True) (.slice (some ⟨W.heap.size, 0, none⟩) 0 0) [] := ⟨fun _ _ => trivial, OwnRow.lit W w.heap.size (ps := ([] : List (List Int))) (inner := []) (Reps.none _ _) h (by simp)⟩
theorem kH_move {w W : World} {base : Nat} {okp : Nat → Prop} {x : List Int} {cs : List Value} (h : kH.K w x cs) : kH.M W base okp x cs := by
  obtain ⟨h1, rfl⟩ := kH_K h
  exact kH_M h1
theorem grown_blk {w w1 : World} {row : Option Nat} {k : Nat} {o : Obj} (hg : w.grownBy w1 row) (h : w.heap[k]? = some o) (hne : some k ≠ row) : w1.heap[k]? = some o := (hg.block k (blk_lt h) hne).trans h
theorem ne_own {k g : Nat} (h : k ≠ g) : some k ≠ (Value.slice (some ⟨g, 0, none⟩) 0 0).ownBlock := by
  intro e
  simp [Value.ownBlock] at e
  omega
theorem alloc_size1 (w : World) (o : Obj) : (w.drew.alloc o).heap.size = w.heap.size + 1 := Array.size_push _
theorem empty_row1 (w : World) (o : Obj) : Kd.R kH 25 ((w.drew.alloc o).alloc (.cells #[] 25)) w.heap.size (fun _ => True) (.slice (some ⟨w.heap.size + 1, 0, none⟩) 0 0) [] := by
  have h := empty_row w (w.drew.alloc o) (by rw [alloc_size1]; omega)
  rw [alloc_size1] at h
  exact h
end Go.Proofs.YtlmcdkjobdcflaaDoor.Hand

