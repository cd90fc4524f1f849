/- A list's root: walked. -/
import Derived.Test.YtlmcdkjobdcflaaDoorProg
import Derived.Below
import Derived.Deep.Draws
import Derived.Deep.AppendLies
import Derived.Maps.AppendAt
import Derived.OwnWalk
import Derived.Laws.BytesArg
import Derived.Laws.MakeOwn
import Derived.Laws.OwnMore
import Derived.Deep.OwnRows
import Derived.Tactics
import Derived.Lib.ConvBytes
import Derived.Laws.Slices
import Derived.WalkKit
import Derived.KernelRfl
import Derived.RowKit3
import Derived.Deep.LoopGhost
import Derived.Deep.QuietTactic
import Derived.BigQuiet
import Derived.WideLaws
import Derived.Deep.DeepCutAuto
import Derived.Deep.CutBlock
import Derived.Deep.RegionHeld3
import Derived.Laws.Rows
import Derived.Lib.AppendStr
import Derived.ArgAppend
import Derived.Laws.IdiomCopy
import Derived.OrdersHeld
import Derived.Laws.BitsLemmas
import Derived.RowKit
import Derived.StillTailTactics
import Derived.Test.YtlmcdkjobdcflaaDoorWWords
import Derived.Test.YtlmcdkjobdcflaaDoorWLast
import Derived.Test.YtlmcdkjobdcflaaDoorWMore
import Derived.Lib.Hide
import Derived.RangeFuncFrom
import Derived.Test.YtlmcdkjobdcflaaDoorRoundBridge
import Derived.Test.YtlmcdkjobdcflaaDoorLevels
namespace Go.Proofs.YtlmcdkjobdcflaaDoor.Hand
open Go Go.RowKit Go.Shelf Go.Proofs.YtlmcdkjobdcflaaDoor.Plain Go.Proofs.YtlmcdkjobdcflaaDoorW.PrintWords Go.Proofs.YtlmcdkjobdcflaaDoorW.PrintLast Go.Proofs.YtlmcdkjobdcflaaDoorW.PrintMore
set_option linter.unusedVariables false
set_option linter.unusedSimpArgs false
set_option maxRecDepth 100000
attribute [local go_sem] Oper.semAt_some
attribute [-go_sem] loadVar storeVar
set_option maxHeartbeats 2000000 in
theorem root_calls (A : Option Addr) (n c : Nat) (xs : List (List Int)) (w : World) (hn : n = xs.length) (hr : Kd.C kH w A n xs) (hc : n ≤ c) (hl : n ≤ 100000) (hH : Hs xs) (hK : KT w) :
    Calls Tryd.prog 20 #[.slice A n c] w fun e w' => e = .returned (.agg (nums .u8 (rootP xs)).toArray) ∧ Below w.heap.size w w' := by
  have HZ := (zero_of_info infoHash).1
  obtain ⟨Z, hZ⟩ : ∃ C, (nums .u8 (List.replicate 32 0)).toArray = C := ⟨_, rfl⟩
  rw [hZ] at HZ
  have HZ0 := Lib.hid hZ
  have hd := depthP_is xs.length
  obtain ⟨d, hdd⟩ : ∃ d, depthP xs.length = d := ⟨_, rfl⟩
  rw [hdd] at hd
  have hroot := rootP_of hd
  have HR := Lib.hid hr
  have HN := Lib.hid (And.intro hn (And.intro hc (And.intro hl (And.intro hH (And.intro hK (And.intro hd hroot))))))
  clear hr hn hc hl hH hK hd hroot hZ hdd
  refine (callsIn_wide (n := 3)).1 ?_
  refine callsIn_of_wp_marks Tryd.func20 rfl trivial ?_ rfl
  simp only [Tryd.ntmps20, List.size_toArray, List.length_cons, List.length_nil, Nat.reduceAdd, Nat.reduceSub, Array.replicate_succ, Array.replicate_zero, List.push_toArray, List.append_toArray, List.nil_append, List.cons_append]
  gi_wp2_with fail
  refine ⟨trivial, (callsIn_wide.2 (levels_calls A n c _)).mono ?_⟩
  rintro e w' ⟨rfl, rfl⟩
  have hsz : (((w.alloc (.cells Z 25)).alloc (.cells Z 25)).alloc (.cells #[.slice A n c] 22)).heap.size = w.heap.size + 3 := by simp
  have hB0 : Below w.heap.size w (((w.alloc (.cells Z 25)).alloc (.cells Z 25)).alloc (.cells #[.slice A n c] 22)) := below_alloc (below_alloc (below_alloc (Below.refl _ w) _) _) _
  have hk0 : (((w.alloc (.cells Z 25)).alloc (.cells Z 25)).alloc (.cells #[.slice A n c] 22)).heap[w.heap.size]? = some (.cells Z 25 (0, 0)) := blk_alloc (blk_alloc (heap_alloc_new w _) _) _
  have hk1 : (((w.alloc (.cells Z 25)).alloc (.cells Z 25)).alloc (.cells #[.slice A n c] 22)).heap[w.heap.size + 1]? = some (.cells Z 25 (0, 0)) := by
    have h := heap_alloc_new (w.alloc (.cells Z 25)) (.cells Z 25)
    rw [World.size_alloc] at h
    exact blk_alloc h _
  have hk2 : (((w.alloc (.cells Z 25)).alloc (.cells Z 25)).alloc (.cells #[.slice A n c] 22)).heap[w.heap.size + 1 + 1]? = some (.cells #[.slice A n c] 22 (0, 0)) := by
    have h := heap_alloc_new ((w.alloc (.cells Z 25)).alloc (.cells Z 25)) (.cells #[.slice A n c] 22)
    simpa using h
  have HW := Lib.hid (And.intro hsz (And.intro hB0 (And.intro hk0 (And.intro hk1 hk2))))
  clear hsz hB0 hk0 hk1 hk2
  gi_wp2_with fail
  obtain ⟨W0, hW0⟩ : ∃ W0, ((w.alloc (.cells Z 25)).alloc (.cells Z 25)).alloc (.cells #[.slice A n c] 22) = W0 := ⟨_, rfl⟩
  rw [hW0] at HW ⊢
  clear hW0
  have hs32 : ∀ p : List Int, p.length = 32 → (Tryd.prog.info? 25).map (·.size) = some (nums .u8 p).length := fun p hp => by rw [nums_len, hp]; exact (zero_of_info infoHash).2
  have HS32 := Lib.hid hs32
  clear hs32
  refine wpIn_rangeFunc_L rfl (by omega) (gf := 62) (lb := #[.pointer (some ⟨w.heap.size + 1 + 1, 0, none⟩)]) rfl trivial (enters_of Tryd.func62 (by kernel_rfl) rfl)
    (levels_seq _ w W0 (w.heap.size + 1 + 1) d A n c xs HN.out.1 HN.out.2.1 HN.out.2.2.1 HN.out.2.2.2.1 HN.out.2.2.2.2.1 HR.out HW.out.2.1 (by omega) HW.out.2.2.2.2 HN.out.2.2.2.2.2.1) ?hps ?hX HW.out.2.1.size (by rw [HW.out.1]; omega)
    (fun i W => ∃ C, W.heap[w.heap.size]? = some (.cells Z 25 (0, 0)) ∧ W.heap[w.heap.size + 1]? = some (.cells C 25 (0, 0)) ∧ C = (nums .u8 (rootAt xs i)).toArray ∧ Below w.heap.size w W)
    (fun _ _ _ => False) ?hI (fun _ _ _ _ h _ => h.elim) ⟨Z, HW.out.2.2.1, HW.out.2.2.2.1, HZ0.out.symm, HW.out.2.1⟩
    (fun ys => { tmps := #[.slice A n c, undef, .pointer (some ⟨w.heap.size, 0, none⟩), .pointer (some ⟨w.heap.size + 1, 0, none⟩), ys.getD 0 undef, .slice A n c, .func (.func 62) #[] #[.pointer (some ⟨w.heap.size + 1 + 1, 0, none⟩)], ys.getD 0 undef, undef, undef, undef, undef, undef, undef, undef], defers := [] }) ?assign ?body ?done ?stop
  case hps =>
    rintro i ys W ⟨A1, n1, c1, rfl, _⟩
    rfl
  case hX =>
    intro i ys B r o hx hl
    exact hx.putObj hl (by have := HW.out.1; omega) o
  case hI =>
    rintro i B1 B2 ⟨C, h1, h2, h3, h4⟩ hs
    have hz := HW.out.1
    exact ⟨C, (hs.block _ (blk_lt h1) ⟨by omega, by omega⟩).trans h1, (hs.block _ (blk_lt h2) ⟨by omega, by omega⟩).trans h2, h3, h4.trans (hs.below (fun k hk => ⟨by omega, by omega⟩) h4.size)⟩
  case assign =>
    rintro l i ys W K ⟨A1, n1, c1, rfl, _⟩ hK
    have e0 : (#[Value.slice A1 n1 c1] : Array Value).getD 0 undef = .slice A1 n1 c1 := rfl
    simp only [e0] at hK
    gi_wp2
    exact hK
  case body =>
    rintro l i ys W ⟨C, h1, h2, h3, h4⟩ ⟨A1, n1, c1, rfl, g1, g2, g3⟩ hsz
    have hC := g2.reads g3
    have hn1 := g2.1
    clear g1 g2
    have e0 : (#[Value.slice A1 n1 c1] : Array Value).getD 0 undef = .slice A1 n1 c1 := rfl
    simp only [e0]
    clear e0
    by_cases e1 : n1 = 1
    · have e2 : ((n1 : Int) == 1) = true := by simp [e1]
      obtain ⟨bb, o, rfl, hbl, hrg⟩ := C_hash (by rw [← hn1]; exact hC) (by omega)
      obtain ⟨hr0, hr32⟩ := hrg 0 (by omega)
      rw [Nat.zero_mul, Nat.add_zero] at hr0
      have hsz32 := HS32.out _ hr32
      have hu := Tryd.underlying25
      have HH1 := Lib.hid (And.intro h1 (And.intro h2 (And.intro h3 (And.intro h4 hsz))))
      clear h1 h2 h3 h4 hsz hC hrg
      have hroot1 : rdH (lev xs i) 0 = rootAt xs (i + 1) := by rw [rootAt, if_pos (by rw [← hn1]; exact e1)]
      rw [hroot1] at hr0 hr32 hsz32
      have HF := Lib.hid (show (Tryd.prog.info? 25).map (·.size) = some (nums .u8 (rootAt xs (i + 1))).toArray.size ∧ C.size = (nums .u8 (rootAt xs (i + 1))).toArray.size by
        refine ⟨by simpa using hsz32, ?_⟩
        rw [HH1.out.2.2.1]
        have h5 := (rootAt_hash HN.out.2.2.2.1 i).1
        simp [nums_len, h5, hr32])
      obtain ⟨RV, hRV⟩ : ∃ RV, nums .u8 (rootAt xs (i + 1)) = RV := ⟨_, rfl⟩
      have ho : RV.toArray.all (·.oneCell') = true := by rw [← hRV]; exact all_oneCell_toArray (nums_one _ _)
      rw [hRV] at hr0 hsz32 HF
      have HRV := Lib.hid hRV
      clear hRV hroot1
      gi_wp2_with ((with_reducible show wpListIn _ _ _ _ _ (Oper.mk _ (Op.load _ (.tmp 12)) _ _ _ _ :: _) _ _); (go_loud (refine wpListIn_of (fun ⟨_, _, h⟩ => h) _ _ _ (by rfl) ?_)))
      go_wp2_with (first
        | ((with_reducible show wpList _ _ _ (Oper.mk _ (Op.load _ (.tmp 12)) _ _ _ _ :: _) _ _); (go_loud (refine wpList_load_mid rfl 25 (.tmp 12) rfl bb o rfl RV _ hr0 hu rfl hsz32 ?_)))
        | ((with_reducible show wpList _ _ _ (Oper.mk _ (Op.store _ _ _) _ _ _ _ :: _) _ _); (go_loud (refine wpList_store_row rfl 25 (.tmp 3) (.tmp 13) rfl (w.heap.size + 1) RV.toArray rfl rfl 25 C HH1.out.2.1 HF.out.1 HF.out.2 ho ?_))))
      obtain ⟨h1, h2, h3, h4, hsz⟩ := HH1.out
      have hz := HW.out.1
      refine ⟨Same.setRow W _ _ (by omega), RV.toArray, (setRow_other _ _ _ _ (by omega)).trans h1, setRow_heap _ _ _ _ _ _ h2, by rw [HRV.out], ?_⟩
      exact h4.trans ⟨rfl, rfl, rfl, by rw [setRow_size]; exact Nat.le_refl _, fun k hk => setRow_other _ _ _ _ (by omega)⟩
    · have e2 : ((n1 : Int) == 1) = false := beq_eq_false_iff_ne.2 (by omega)
      have hroot1 : rootAt xs (i + 1) = rootAt xs i := by rw [rootAt, if_neg (by rw [← hn1]; exact e1)]
      have HH1 := Lib.hid (And.intro h1 (And.intro h2 (And.intro h3 (And.intro h4 hroot1))))
      clear h1 h2 h3 h4 hsz hC hroot1
      gi_wp2
      obtain ⟨h1, h2, h3, h4, hroot1⟩ := HH1.out
      exact ⟨Same.refl _ _, C, h1, h2, by rw [hroot1]; exact h3, h4⟩
  case done =>
    rintro i W rfl ⟨C, h1, h2, h3, h4⟩ hK
    have hsz := HW.out.1
    have h32 := (rootAt_hash HN.out.2.2.2.1 (d + 1)).1
    have hres := HN.out.2.2.2.2.2.2
    have HF := Lib.hid (show (Tryd.prog.info? 25).map (·.size) = some C.size ∧ Z.size = C.size ∧ C.all (·.oneCell') = true by
      have hc : C.size = 32 := by rw [h3]; simp [nums_len, h32]
      refine ⟨by rw [hc]; exact (zero_of_info infoHash).2, by rw [hc, ← HZ0.out]; rfl, by rw [h3]; exact all_oneCell_toArray (nums_one _ _)⟩)
    have HH1 := Lib.hid (And.intro h1 (And.intro h2 (And.intro h3 (And.intro h4 (And.intro hK hres)))))
    have HU := Lib.hid Tryd.underlying25
    clear h1 h2 h3 h4 hK h32 hres hsz
    gi_wp2_with ((with_reducible show wpListIn _ _ _ _ _ (Oper.mk _ (Op.load _ (.tmp 3)) _ _ _ _ :: _) _ _); (go_loud (refine wpListIn_of0 (fun ⟨_, _, h⟩ => nomatch h.1) _ _ _ ?_)))
    go_wp2_with (first
      | ((with_reducible show wpList _ _ _ (Oper.mk _ (Op.load _ (.tmp 3)) _ _ _ _ :: _) _ _); (go_loud (refine wpList_load_row rfl 25 (.tmp 3) rfl (w.heap.size + 1) rfl 25 C (0, 0) _ HH1.out.2.1 HU.out rfl HF.out.1 ?_)))
      | ((with_reducible show wpList _ _ _ (Oper.mk _ (Op.store _ _ _) _ _ _ _ :: _) _ _); (go_loud (refine wpList_store_row rfl 25 (.tmp 2) (.tmp 14) rfl w.heap.size C rfl rfl 25 Z HH1.out.1 HF.out.1 HF.out.2.1 HF.out.2.2 ?_))))
    gi_wp2
    obtain ⟨h1, h2, h3, h4, hK, hres⟩ := HH1.out
    have hsz := HW.out.1
    have hK2 : (W.setRow w.heap.size C).heap[W0.heap.size]? = some (.deferred (some [])) := (setRow_other _ _ _ _ (by omega)).trans hK
    have h6 : ((W.setRow w.heap.size C).putObj W0.heap.size (.deferred none)).heap[w.heap.size]? = some (.cells C 25 (0, 0)) := (World.putObj_heap_other (by omega)).trans (setRow_heap _ _ _ _ _ _ h1)
    refine ⟨by simp, .inl ⟨_, _, rfl, run_takeDeferred hK2, ?_⟩⟩
    refine ⟨_, results_cell_row rfl _ _ w.heap.size 25 C (0, 0) _ rfl h6 HU.out rfl HF.out.1, by rw [hres, ← h3], ?_⟩
    have b1 : Below w.heap.size w (W.setRow w.heap.size C) := h4.trans ⟨rfl, rfl, rfl, by rw [setRow_size]; exact Nat.le_refl _, fun k hk => setRow_other _ _ _ _ (by omega)⟩
    exact b1.trans (⟨rfl, rfl, rfl, by simp, fun k hk => World.putObj_heap_other (by omega)⟩ : Below w.heap.size (W.setRow w.heap.size C) ((W.setRow w.heap.size C).putObj W0.heap.size (.deferred none)))
  case stop =>
    rintro c i W h _
    exact h.elim
end Go.Proofs.YtlmcdkjobdcflaaDoor.Hand
