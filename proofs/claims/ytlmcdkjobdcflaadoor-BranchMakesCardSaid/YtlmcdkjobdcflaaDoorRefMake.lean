/- The document's branch of a leaf: walked. -/
import Derived.Test.YtlmcdkjobdcflaaDoorProg
import Derived.Below
import Derived.Deep.Draws
import Derived.Deep.AppendLies
import Derived.Maps.AppendAt
import Derived.OwnWalk
import Derived.Laws.BytesArg
import Derived.Laws.MakeOwn
import Derived.Laws.OwnMore
import Derived.Deep.OwnRows
import Derived.Tactics
import Derived.Lib.ConvBytes
import Derived.Laws.Slices
import Derived.WalkKit
import Derived.KernelRfl
import Derived.RowKit3
import Derived.Deep.LoopGhost
import Derived.Deep.QuietTactic
import Derived.BigQuiet
import Derived.WideLaws
import Derived.Deep.DeepCutAuto
import Derived.Deep.CutBlock
import Derived.Deep.RegionHeld3
import Derived.Laws.Rows
import Derived.Lib.AppendStr
import Derived.ArgAppend
import Derived.Laws.IdiomCopy
import Derived.OrdersHeld
import Derived.Laws.BitsLemmas
import Derived.RowKit
import Derived.StillTailTactics
import Derived.Test.YtlmcdkjobdcflaaDoorWWords
import Derived.Test.YtlmcdkjobdcflaaDoorWLast
import Derived.Test.YtlmcdkjobdcflaaDoorWMore
import Derived.Lib.Hide
import Derived.Outline
import Derived.Deep.MidRow
import Derived.Deep.WholeRow
import Derived.Deep.DrawnRows
import Derived.Deep.Cut
import Derived.Deep.CutRange
import Derived.Test.YtlmcdkjobdcflaaDoorBranA
namespace Go.Proofs.YtlmcdkjobdcflaaDoor.Hand
open Go Go.RowKit Go.Proofs.YtlmcdkjobdcflaaDoor.Plain Go.Proofs.YtlmcdkjobdcflaaDoor.PAll Go.Proofs.YtlmcdkjobdcflaaDoorW.PrintWords Go.Proofs.YtlmcdkjobdcflaaDoorW.PrintLast Go.Proofs.YtlmcdkjobdcflaaDoorW.PrintMore
set_option linter.unusedVariables false
set_option linter.unusedSimpArgs false
set_option maxRecDepth 100000
attribute [local go_sem ↓] Go.wp_at_zero Go.wp_at_succ
theorem run_load_rz (w : World) (a : Addr) (v : Value) (h : w.cell? a = some v) : (loadVar 28 a).run Tryd.prog w = .ok v w := by
  go_simp
theorem run_store_rz (w : World) (a : Addr) (A : Option Addr) (m c : Nat) (v0 : Value) (h : w.cell? a = some v0) (hf : w.frozen? a = false) : (storeVar 28 a (.slice A m c)).run Tryd.prog w = .ok () (w.setCell a (.slice A m c)) := by
  go_simp
attribute [-go_sem] loadVar storeVar Instr.buildSlice
theorem built_z2 (n i : Int) : Tryd.prog.built 46 [(0, .int .i64 n), (1, .int .i64 i)] = some #[.int .i64 n, .int .i64 i, .slice none 0 0] := by kernel_rfl
theorem half64 {a : Nat} (h : a ≤ 100000) : wrap64 ((a : Int) / 2) = ((a / 2 : Nat) : Int) := by
  rw [IntWalk.wrap64_in _ ⟨by omega, by omega⟩]
  omega
theorem count_next {d k : Nat} (h : k < d) : d + 1 - (intOf (.int .i64 ((k + 1 : Nat) : Int))).toNat < d + 1 - (intOf (.int .i64 (k : Int))).toNat := by
  simp only [intOf]
  omega
theorem take_next {ys : List (List Int)} {k : Nat} (h : k < ys.length) : ys.take (k + 1) = ys.take k ++ [rdH ys k] := by
  rw [rdH_eq h, List.take_succ_eq_append_getElem h]
set_option maxHeartbeats 8000000 in
theorem rmake_calls (A : Option Addr) (n c : Nat) (xs : List (List Int)) (i d : Nat) (w : World) (hn : n = xs.length) (hr : Kd.C kH w A n xs) (hc : n ≤ c) (hl : n ≤ 1000) (hH : Hs xs) (hi : i < n) (hd : IsDepth n d) :
    Calls Tryd.prog 31 #[.slice A n c, .int .i64 (i : Int)] w fun e w' => ∃ A2 c2, e = .returned (bV n i A2 d c2) ∧ d ≤ c2 ∧ Kd.C kH w' A2 d (pathF d xs i) ∧ Below w.heap.size w w' := by
  have hz := (zero_of_info infoR9).1
  have hz32 := (zero_of_info info32b).1
  have HI := Lib.hid (And.intro Tryd.underlying46 (And.intro (zero_of_info infoR9).2 (built_z2 n i)))
  have hb2 := heap_alloc2_new w (.cells #[.int .i64 0, .int .i64 0, .slice none 0 0] 46) (.cells #[.int .i64 0, .int .i64 0, .slice none 0 0] 46)
  have HB2 := Lib.hid hb2
  have HZ0 := Lib.hid ((setRow_other ((w.alloc (.cells #[.int .i64 0, .int .i64 0, .slice none 0 0] 46)).alloc (.cells #[.int .i64 0, .int .i64 0, .slice none 0 0] 46)) (w.heap.size + 1) w.heap.size #[.int .i64 (n : Int), .int .i64 (i : Int), .slice none 0 0] (by omega)).trans (heap_alloc2_old w (.cells #[.int .i64 0, .int .i64 0, .slice none 0 0] 46) (.cells #[.int .i64 0, .int .i64 0, .slice none 0 0] 46)))
  have HB1 := Lib.hid (setRow_heap _ _ _ #[.int .i64 (n : Int), .int .i64 (i : Int), .slice none 0 0] _ _ hb2)
  have HB := Lib.hid (below_setRow (below_alloc (below_alloc (Below.refl w.heap.size w) (.cells #[.int .i64 0, .int .i64 0, .slice none 0 0] 46)) (.cells #[.int .i64 0, .int .i64 0, .slice none 0 0] 46)) (show w.heap.size ≤ w.heap.size + 1 by omega) #[.int .i64 (n : Int), .int .i64 (i : Int), .slice none 0 0])
  clear hb2
  have hd16 : d ≤ 16 := depth_le hd (m := 16) (by have h16 : (2 : Nat) ^ 16 = 65536 := by decide
                                                  omega)
  have HDE := Lib.hid (fun u => (show Calls Tryd.prog 54 #[.int .i64 (n : Int)] u fun e w' => e = .returned (.int .i64 (d : Int)) ∧ Drawn0 u w' from by
    have h := rdepth_calls n u (by omega)
    rw [IsDepth.unique (depthP_is n) hd] at h
    exact h))
  have HWI := Lib.hid (fun (lvl : Nat) (h : lvl ≤ 1000) (u : World) => rwide_calls n lvl u (by omega) (by omega))
  have HNO := Lib.hid (fun (lvl a : Nat) (u : World) (hu : Below w.heap.size w u) (ha : a < wideP n lvl) (hl2 : lvl ≤ 1000) => rnode_calls A n c xs hn hc (by omega) hH lvl a u (Kd.C_below hr hu) ha hl2)
  obtain ⟨ys, hys⟩ : ∃ ys, pathF d xs i = ys := ⟨_, rfl⟩
  have hyl : ys.length = d := by rw [← hys]; exact pathF_len _ _ _
  have HY := Lib.hid (show (∀ p ∈ ys, p.length = 32) ∧ ∀ k, k < d → rdH ys k = nodeP xs k (if wideP n k ≤ sib (i / 2 ^ k) then i / 2 ^ k else sib (i / 2 ^ k)) from ⟨fun p hp => (pathF_Hs d xs i hH p (by rw [hys]; exact hp)).1, fun k hk => by rw [← hys, pathF_node (by omega) hk, hn]⟩)
  rw [hys]
  have HAT := Lib.hid (fun k => at_wide (n := n) hi k)
  have HN32 := Lib.hid (show ∀ lvl a : Nat, a < wideP n lvl → (nodeP xs lvl a).length = 32 ∧ ∀ x ∈ nodeP xs lvl a, 0 ≤ x ∧ x < 256 from fun lvl a h => by
    rw [nodeP_lev xs lvl a (by rw [← hn]; exact h)]
    exact (lev_Hs hH lvl).any a)
  unfold bV
  clear hn hr hH hd hys
  go_enter Tryd.func31, Tryd.ntmps31
  go_wp2_with (first
    | ((with_reducible show wpList _ _ _ (Oper.mk _ (Op.build _ _) _ _ _ _ :: _) _ _); (go_loud (refine wpl_build rfl 46 _ rfl #[(0, .int .i64 n), (1, .int .i64 i)] (by simp [Act.eval]) _ HI.out.2.2 ?_)))
    | ((with_reducible show wpList _ _ _ (Oper.mk _ (Op.store _ (.tmp 5) _) _ _ _ _ :: _) _ _); (go_loud (refine wpList_store_row rfl 46 (.tmp 5) (.tmp 11) rfl (w.heap.size + 1) #[.int .i64 (n : Int), .int .i64 (i : Int), .slice none 0 0] rfl rfl 46 #[.int .i64 0, .int .i64 0, .slice none 0 0] HB2.out HI.out.2.1 rfl (by simp [Value.oneCell']) ?_))))
  go_loopw [1, 6] (fun va vk wr => ∃ (k a : Nat), va = .int .i64 (a : Int) ∧ vk = .int .i64 (k : Int) ∧ Hid ((k ≤ d ∧ a = i / 2 ^ k) ∧ (∃ v, wr.heap[w.heap.size + 1]? = some (.cells #[.int .i64 (n : Int), .int .i64 (i : Int), v] 46 (0, 0)) ∧ Kd.R kH 24 wr (w.heap.size + 2) (fun _ => True) v (ys.take k)) ∧ wr.heap[w.heap.size]? = some (.cells #[.int .i64 0, .int .i64 0, .slice none 0 0] 46 (0, 0)) ∧ Below w.heap.size w wr)) (fun _ vk _ => d + 1 - (intOf vk).toNat)
  case atStart => exact ⟨0, i, rfl, rfl, Lib.hid ⟨⟨Nat.zero_le _, by simp⟩, ⟨.slice none 0 0, HB1.out, Kd.R_nil _ _ _ _ _⟩, HZ0.out, HB.out⟩⟩
  case round =>
    obtain ⟨k, a, rfl, rfl, H⟩ := hrel
    obtain ⟨⟨hkd, ha⟩, ⟨v, hBc, hRv⟩, hZc, hBw⟩ := H.out
    have HAE := Lib.hid ha
    clear ha
    have HBC := Lib.hid hBc
    have HRV := Lib.hid hRv
    have HZC := Lib.hid hZc
    have HBW := Lib.hid hBw
    clear hBc hRv hZc hBw H
    go_wp2_with fail
    (with_reducible refine (HDE.out _).mono ?_)
    rintro e w2 ⟨rfl, ⟨m2, rfl⟩⟩
    have HBC2 := Lib.hid (blk_drewN HBC.out m2)
    have HRV2 := Lib.hid (Kd.R_drewN HRV.out m2)
    have HZC2 := Lib.hid (blk_drewN HZC.out m2)
    have HBW2 := Lib.hid (pw_below_drewN HBW.out m2)
    obtain ⟨W2, hW2⟩ : ∃ W, wr.drewN m2 = W := ⟨_, rfl⟩
    rw [hW2] at HBC2 HRV2 HZC2 HBW2 ⊢
    clear hW2 HBC HRV HZC HBW
    by_cases hlt : k < d
    · obtain ⟨V, hV⟩ : ∃ V, wideP n k = V := ⟨_, rfl⟩
      have haV : a < V := by rw [← hV, HAE.out]; exact HAT.out k
      have hVn : V ≤ n := by rw [← hV]; exact wideP_le n k
      have HW := Lib.hid (HWI.out k (by omega))
      have hnode := HY.out.2 k hlt
      rw [← HAE.out, hV] at hnode
      have HNK := Lib.hid (fun (b : Nat) (u : World) (hu : Below w.heap.size w u) (hb : b < V) => HNO.out k b u hu (by rw [hV]; exact hb) (by omega))
      rw [hV] at HW
      have hka : i / 2 ^ (k + 1) = a / 2 := by rw [HAE.out, Nat.pow_succ, Nat.div_div_eq_div_mul]
      have HKA := Lib.hid hka
      have gk : (k : Int) < (d : Int) := by omega
      -- behind the append, and behind the store into the branch
      have HAFTER := Lib.hid (show ∀ (W5 w6 : World) (q : List Int) (v4 : Value) (w7 : World), (W5.heap[w.heap.size + 1]? = some (.cells #[.int .i64 (n : Int), .int .i64 (i : Int), v] 46 (0, 0)) ∧ W5.heap[w.heap.size]? = some (.cells #[.int .i64 0, .int .i64 0, .slice none 0 0] 46 (0, 0)) ∧ Below w.heap.size w W5 ∧ Kd.R kH 24 W5 (w.heap.size + 2) (fun _ => True) v (ys.take k)) → Below W5.heap.size W5 w6 → rdH ys k = q → Kd.R kH 24 w7 (w.heap.size + 2) (fun _ => True) v4 (ys.take k ++ [q]) → w6.grownBy w7 v.ownBlock → Below (w.heap.size + 2) W5 w7 →
          (storeVar 28 ⟨w.heap.size + 1, 2, none⟩ v4).run Tryd.prog w7 = .ok () (w7.setCell ⟨w.heap.size + 1, 2, none⟩ v4) ∧ (k + 1 ≤ d ∧ a / 2 = i / 2 ^ (k + 1)) ∧ (∃ v, (w7.setCell ⟨w.heap.size + 1, 2, none⟩ v4).heap[w.heap.size + 1]? = some (.cells #[.int .i64 (n : Int), .int .i64 (i : Int), v] 46 (0, 0)) ∧ Kd.R kH 24 (w7.setCell ⟨w.heap.size + 1, 2, none⟩ v4) (w.heap.size + 2) (fun _ => True) v (ys.take (k + 1))) ∧ (w7.setCell ⟨w.heap.size + 1, 2, none⟩ v4).heap[w.heap.size]? = some (.cells #[.int .i64 0, .int .i64 0, .slice none 0 0] 46 (0, 0)) ∧ Below w.heap.size w (w7.setCell ⟨w.heap.size + 1, 2, none⟩ v4) from by
        intro W5 w6 q v4 w7 ⟨hB5, hZ5, hb5, hR5⟩ hb6 hq ho hg hb7
        have hB7 : w7.heap[w.heap.size + 1]? = _ := (hg.block _ (blk_lt ((hb6.block _ (blk_lt hB5)).trans hB5)) (fun e => by have := Kd.R_base hR5 _ e.symm; omega)).trans ((hb6.block _ (blk_lt hB5)).trans hB5)
        have hZ7 : w7.heap[w.heap.size]? = _ := (hg.block _ (blk_lt ((hb6.block _ (blk_lt hZ5)).trans hZ5)) (fun e => by have := Kd.R_base hR5 _ e.symm; omega)).trans ((hb6.block _ (blk_lt hZ5)).trans hZ5)
        obtain ⟨A4, c4, rfl⟩ := Kd.R_slice ho
        refine ⟨run_store_rz _ _ _ _ _ _ ((blk_cell hB7 2).trans rfl) (blk_frozen hB7 2), ⟨hlt, hka.symm⟩, ⟨_, blk_set hB7 2 _, ?_⟩, (Below.heap_setCell w7 _ _ _ (by simp)).trans hZ7, (hb5.trans (Below.mono hb7 (by omega))).setCell (p := ⟨w.heap.size + 1, 2, none⟩) (show w.heap.size ≤ w.heap.size + 1 by omega) _⟩
        rw [take_next (by rw [hyl]; exact hlt), hq]
        exact Kd.R_mono (Kd.R_step (Kd.R_bound ho) (fun g h _ => Below.heap_setCell w7 _ _ g (show g ≠ w.heap.size + 1 from by have := h.2.1; omega))) (fun _ _ => trivial))
      have HTK := Lib.hid (show (ys.take k).length = k by rw [List.length_take, hyl]; exact Nat.min_eq_left hkd)
      have HVV := Lib.hid hV
      have HYL := Lib.hid hyl
      clear hV hka HWI HNO hyl
      obtain ⟨sb, hsb⟩ : ∃ x, sib a = x := ⟨_, rfl⟩
      rw [hsb] at hnode
      obtain ⟨ot, hot⟩ : ∃ x, (if V ≤ sb then a else sb) = x := ⟨_, rfl⟩
      rw [hot] at hnode
      have hov : ot < V := by
        rw [← hot]
        split
        · exact haV
        · omega
      have HSO := Lib.hid (And.intro hsb hot)
      have HOV := Lib.hid hov
      have hs20 : sb ≤ a + 1 := by rw [← hsb]; unfold sib; split <;> omega
      have HND := Lib.hid hnode
      have hpq := HN32.out k ot (by rw [HVV.out]; exact HOV.out)
      have HCM := Lib.hid (show ∀ u : World, kH.M u (w.heap.size + 2) (fun _ => False) (nodeP xs k ot) (nums .u8 (nodeP xs k ot)) from fun u => kH_M hpq.1)
      have hbs := fun u => run_hash1r _ hpq.1 u
      obtain ⟨P, hP⟩ : ∃ P, nums .u8 (nodeP xs k ot) = P := ⟨_, rfl⟩
      rw [hP] at HCM hbs
      have HP := Lib.hid hP
      have HTL := Lib.hid (show ((ys.take k).length + 1) * 32 ≤ 140737488355328 by rw [HTK.out]; exact Nat.le_trans (Nat.mul_le_mul_right 32 (Nat.succ_le_succ (Nat.le_trans hkd hd16))) (by decide))
      clear hpq hP hnode hsb hot hov
      go_upto_if 23 with fail
      go_cut [7] from 12 to 43 (fun x wx => x = .int .i64 (sb : Int) ∧ wx = W2)
      case first =>
        by_cases ev : a % 2 = 0
        · have e1 : ¬ (a : Int) % 2 = 1 := by omega
          have hs : (a : Int) + 1 = (sb : Int) := by rw [← HSO.out.1]; unfold sib; rw [if_pos ev]; omega
          have hs64 : wrap64 ((a : Int) + 1) = (a : Int) + 1 := IntWalk.wrap64_in _ ⟨by omega, by omega⟩
          go_wp2_with fail
          go_meet
          exact ⟨by first | rfl | (simp only [hs64, hs]) | (congr 1 <;> omega), rfl⟩
        · have e1 : (a : Int) % 2 = 1 := by omega
          have hs : (a : Int) - 1 = (sb : Int) := by rw [← HSO.out.1]; unfold sib; rw [if_neg ev]; omega
          have hs64 : wrap64 ((a : Int) - 1) = (a : Int) - 1 := IntWalk.wrap64_in _ ⟨by omega, by omega⟩
          go_wp2_with fail
          go_meet
          exact ⟨by first | rfl | (simp only [hs64, hs]) | (congr 1 <;> omega), rfl⟩
      case rest =>
        obtain ⟨rfl, rfl⟩ := hcut
        go_wp2_with fail
        (with_reducible refine (HW.out _).mono ?_)
        rintro e w3 ⟨rfl, ⟨m3, rfl⟩⟩
        have HF5 := Lib.hid (And.intro (blk_drewN HBC2.out m3) (And.intro (blk_drewN HZC2.out m3) (And.intro (pw_below_drewN HBW2.out m3) (Kd.R_drewN HRV2.out m3))))
        clear HBC2 HRV2 HZC2 HBW2
        generalize wc.drewN m3 = W5 at HF5 ⊢
        have HBS := Lib.hid (show w.heap.size + 2 ≤ W5.heap.size by have := blk_lt HF5.out.1; omega)
        go_upto_if 31 with fail
        go_cut [7] from 12 to 43 (fun x wx => x = .int .i64 (ot : Int) ∧ wx = W5)
        case first =>
          by_cases ge : V ≤ sb
          · have g9 : (V : Int) ≤ (sb : Int) := by omega
            have hot : a = ot := by rw [← HSO.out.2, if_pos ge]
            subst hot
            go_wp2_with fail
            go_meet
            exact ⟨rfl, rfl⟩
          · have g9 : ¬ (V : Int) ≤ (sb : Int) := by omega
            have hot : sb = ot := by rw [← HSO.out.2, if_neg ge]
            subst hot
            go_wp2_with fail
            go_meet
            exact ⟨rfl, rfl⟩
        case rest =>
          obtain ⟨rfl, rfl⟩ := hcut
          generalize wc = W5 at *
          go_upto_region 10 with fail
          go_cut [] from 12 to 43 (fun wx => Hid ((k + 1 ≤ d ∧ a / 2 = i / 2 ^ (k + 1)) ∧ (∃ v, wx.heap[w.heap.size + 1]? = some (.cells #[.int .i64 (n : Int), .int .i64 (i : Int), v] 46 (0, 0)) ∧ Kd.R kH 24 wx (w.heap.size + 2) (fun _ => True) v (ys.take (k + 1))) ∧ wx.heap[w.heap.size]? = some (.cells #[.int .i64 0, .int .i64 0, .slice none 0 0] 46 (0, 0)) ∧ Below w.heap.size w wx))
          case first =>
            have hHeld : True := trivial
            refine wp_region_held (S := fun _ => True) (by kernel_rfl) ?_
            change wpAnyH _ _ _ _ _ _ _ _ (World.drew _)
            refine wpAnyH_take (i := 0) (oi := ({ dst := some 33, op := Op.fieldAddr 46 (Operand.tmp 5) 2, type := 0, pos := "ref.go:23", after := #[], guard := none } : Oper)) (v := .pointer (some ⟨w.heap.size + 1, 2, none⟩)) rfl (by kernel_rfl) (by kernel_rfl) (by kernel_rfl) (fun _ _ _ h => h) (Or.inl ⟨by rfl, fun w hSw => by go_simp⟩) hHeld ?_
            simp only [Act.put, List.setIfInBounds_toArray, List.set_cons_zero, List.set_cons_succ]
            refine wpAnyH_take (i := 2) (oi := ({ dst := some 35, op := Op.move (Operand.tmp 0), type := 28, pos := "ref.go:23", after := #[], guard := none } : Oper)) (v := .slice A n c) rfl (by kernel_rfl) (by kernel_rfl) (by kernel_rfl) (fun _ _ _ h => h) (Or.inl ⟨by rfl, fun w hSw => by go_simp⟩) hHeld ?_
            simp only [Act.put, List.setIfInBounds_toArray, List.set_cons_zero, List.set_cons_succ]
            refine wpAnyH_take (i := 3) (oi := ({ dst := some 36, op := Op.move (Operand.tmp 6), type := 3, pos := "ref.go:23", after := #[], guard := none } : Oper)) (v := .int .i64 (k : Int)) rfl (by kernel_rfl) (by kernel_rfl) (by kernel_rfl) (fun _ _ _ h => h) (Or.inl ⟨by rfl, fun w hSw => by go_simp⟩) hHeld ?_
            simp only [Act.put, List.setIfInBounds_toArray, List.set_cons_zero, List.set_cons_succ]
            refine wpAnyH_take (i := 4) (oi := ({ dst := some 37, op := Op.move (Operand.tmp 7), type := 3, pos := "ref.go:23", after := #[], guard := none } : Oper)) (v := .int .i64 (ot : Int)) rfl (by kernel_rfl) (by kernel_rfl) (by kernel_rfl) (fun _ _ _ h => h) (Or.inl ⟨by rfl, fun w hSw => by go_simp⟩) hHeld ?_
            simp only [Act.put, List.setIfInBounds_toArray, List.set_cons_zero, List.set_cons_succ]
            refine wpAnyH_ready (rs := [1, 5]) (by kernel_rfl) (by simp) ?_
            refine AllReadyH.cons (o := ({ dst := some 34, op := Op.load 28 (Operand.tmp 33), type := 28, pos := "ref.go:23", after := #[{ on := 0, ground := Ground.data }], guard := none } : Oper)) rfl (fun K hK => ?_) (AllReadyH.cons (o := ({ dst := some 38, op := Op.call { callee := Callee.value (Operand.func 53), args := #[Operand.tmp 35, Operand.tmp 36, Operand.tmp 37], argTypes := #[28, 3, 3] }, type := 24, pos := "ref.go:23", after := #[{ on := 2, ground := Ground.data }, { on := 3, ground := Ground.data }, { on := 4, ground := Ground.data }], guard := none } : Oper)) rfl (fun K hK => ?_) AllReadyH.nil)
            · skip
              have hl1 := run_load_rz W5.drew ⟨w.heap.size + 1, 2, none⟩ _ ((blk_cell (blk_drew HF5.out.1) 2).trans rfl)
              go_simp
              refine hK.out _ _ (trivial) (fun hHeld => ?_)
              clear hK K
              try simp only [Act.put, List.setIfInBounds_toArray, List.set_cons_zero, List.set_cons_succ]
              clear hl1
              refine wpAnyH_ready (rs := [5]) (by kernel_rfl) (by simp) ?_
              refine AllReadyH.cons (o := ({ dst := some 38, op := Op.call { callee := Callee.value (Operand.func 53), args := #[Operand.tmp 35, Operand.tmp 36, Operand.tmp 37], argTypes := #[28, 3, 3] }, type := 24, pos := "ref.go:23", after := #[{ on := 2, ground := Ground.data }, { on := 3, ground := Ground.data }, { on := 4, ground := Ground.data }], guard := none } : Oper)) rfl (fun K hK => ?_) AllReadyH.nil
              go_simp
              (with_reducible refine (HNK.out ot _ (HF5.out.2.2.1.trans (Below.mono (below_drew (Below.refl W5.heap.size W5)) HF5.out.2.2.1.size)) HOV.out).mono ?_)
              rintro e w6 ⟨rfl, hb6⟩
              have HB6 := Lib.hid (show Below W5.heap.size W5 w6 from (below_drew (Below.refl W5.heap.size W5)).trans hb6)
              clear hb6
              rw [HP.out]
              go_wp2_with fail
              refine hK.out _ _ (trivial) (fun hHeld => ?_)
              clear hK K
              try simp only [Act.put, List.setIfInBounds_toArray, List.set_cons_zero, List.set_cons_succ]
              refine wpAnyH_ready (rs := [6]) (by kernel_rfl) (by simp) ?_
              refine AllReadyH.cons (o := ({ dst := some 39, op := Op.buildSlice 28 1 #[(0, Operand.tmp 38)], type := 28, pos := "ref.go:23", after := #[{ on := 5, ground := Ground.data }], guard := none } : Oper)) rfl (fun K hK => ?_) AllReadyH.nil
              go_simp
              refine hK.out _ _ (trivial) (fun hHeld => ?_)
              clear hK K
              try simp only [Act.put, List.setIfInBounds_toArray, List.set_cons_zero, List.set_cons_succ]
              refine wpAnyH_ready (rs := [7]) (by kernel_rfl) (by simp) ?_
              refine AllReadyH.cons (o := ({ dst := some 40, op := Op.call { callee := Callee.builtin Builtin.append, args := #[Operand.tmp 34, Operand.tmp 39], argTypes := #[28, 28] }, type := 28, pos := "ref.go:23", after := #[{ on := 1, ground := Ground.data }, { on := 6, ground := Ground.data }, { on := 5, ground := Ground.chain }], guard := none } : Oper)) rfl (fun K hK => ?_) AllReadyH.nil
              refine Kd.R_append_step kH (W := w6) (w0 := W5) (w.heap.size + 2) (by rfl) (.tmp 34) (.tmp 39) 28 24 (.agg (nums .u8 (List.replicate 32 0)).toArray) 32 (by rfl) Tryd.underlying28 info32c rfl (by decide) (by decide) v (ys.take k) (nodeP xs k ot) P (fun _ => True) (fun _ => False) (by rfl) (by rfl) (HCM.out _) (fun _ h => h.elim) (fun _ _ => trivial) (Kd.R_below HF5.out.2.2.2 HB6.out) (Below.mono HB6.out HBS.out) (Nat.le_trans HBS.out HB6.out.size) HTL.out ?_
              intro v4 w7 ho hb hg hat
              have HA := Lib.hid (HAFTER.out W5 w6 _ v4 w7 HF5.out HB6.out HND.out ho hg hb)
              clear ho hb hg hat
              refine hK.out _ _ (trivial) (fun hHeld => ?_)
              clear hK K
              try simp only [Act.put, List.setIfInBounds_toArray, List.set_cons_zero, List.set_cons_succ]
              have hst := HA.out.1
              refine wpAnyH_take (i := 8) (oi := ({ dst := some 41, op := Op.fieldAddr 46 (Operand.tmp 5) 2, type := 0, pos := "ref.go:23", after := #[{ on := 0, ground := Ground.phase }, { on := 1, ground := Ground.phase }, { on := 2, ground := Ground.phase }, { on := 3, ground := Ground.phase }, { on := 4, ground := Ground.phase }, { on := 5, ground := Ground.phase }, { on := 6, ground := Ground.phase }, { on := 7, ground := Ground.phase }], guard := none } : Oper)) (v := .pointer (some ⟨w.heap.size + 1, 2, none⟩)) rfl (by kernel_rfl) (by kernel_rfl) (by kernel_rfl) (fun _ _ _ h => h) (Or.inl ⟨by rfl, fun w hSw => by go_simp⟩) hHeld ?_
              simp only [Act.put, List.setIfInBounds_toArray, List.set_cons_zero, List.set_cons_succ]
              refine wpAnyH_ready (rs := [9]) (by kernel_rfl) (by simp) ?_
              refine AllReadyH.cons (o := ({ dst := none, op := Op.store 28 (Operand.tmp 41) (Operand.tmp 40), type := 0, pos := "ref.go:23", after := #[{ on := 8, ground := Ground.data }, { on := 7, ground := Ground.data }, { on := 7, ground := Ground.chain }, { on := 0, ground := Ground.phase }, { on := 1, ground := Ground.phase }, { on := 2, ground := Ground.phase }, { on := 3, ground := Ground.phase }, { on := 4, ground := Ground.phase }, { on := 5, ground := Ground.phase }, { on := 6, ground := Ground.phase }, { on := 7, ground := Ground.phase }], guard := none } : Oper)) rfl (fun K hK => ?_) AllReadyH.nil
              go_simp
              refine hK.out _ _ (trivial) (fun hHeld => ?_)
              clear hK K
              try simp only [Act.put, List.setIfInBounds_toArray, List.set_cons_zero, List.set_cons_succ]
              refine wpAnyH_done (by kernel_rfl) ?_ _
              clear hst hHeld hbs
              go_wp2_with fail
              go_meet
              exact Lib.hid HA.out.2
            · skip
              go_simp
              (with_reducible refine (HNK.out ot _ (HF5.out.2.2.1.trans (Below.mono (below_drew (Below.refl W5.heap.size W5)) HF5.out.2.2.1.size)) HOV.out).mono ?_)
              rintro e w6 ⟨rfl, hb6⟩
              have HB6 := Lib.hid (show Below W5.heap.size W5 w6 from (below_drew (Below.refl W5.heap.size W5)).trans hb6)
              clear hb6
              rw [HP.out]
              go_wp2_with fail
              refine hK.out _ _ (trivial) (fun hHeld => ?_)
              clear hK K
              try simp only [Act.put, List.setIfInBounds_toArray, List.set_cons_zero, List.set_cons_succ]
              have hl1 := run_load_rz w6 ⟨w.heap.size + 1, 2, none⟩ _ ((blk_cell ((HB6.out.block _ (blk_lt HF5.out.1)).trans HF5.out.1) 2).trans rfl)
              have hl2 := run_load_rz (w6.alloc (.cells P.toArray 24)) ⟨w.heap.size + 1, 2, none⟩ _ ((blk_cell (blk_alloc ((HB6.out.block _ (blk_lt HF5.out.1)).trans HF5.out.1) _) 2).trans rfl)
              refine wpAnyH_ready (rs := [1, 6]) (by kernel_rfl) (by simp) ?_
              refine AllReadyH.cons (o := ({ dst := some 34, op := Op.load 28 (Operand.tmp 33), type := 28, pos := "ref.go:23", after := #[{ on := 0, ground := Ground.data }], guard := none } : Oper)) rfl (fun K hK => ?_) (AllReadyH.cons (o := ({ dst := some 39, op := Op.buildSlice 28 1 #[(0, Operand.tmp 38)], type := 28, pos := "ref.go:23", after := #[{ on := 5, ground := Ground.data }], guard := none } : Oper)) rfl (fun K hK => ?_) AllReadyH.nil)
              · skip
                go_simp
                refine hK.out _ _ (trivial) (fun hHeld => ?_)
                clear hK K
                try simp only [Act.put, List.setIfInBounds_toArray, List.set_cons_zero, List.set_cons_succ]
                clear hl1 hl2
                refine wpAnyH_ready (rs := [6]) (by kernel_rfl) (by simp) ?_
                refine AllReadyH.cons (o := ({ dst := some 39, op := Op.buildSlice 28 1 #[(0, Operand.tmp 38)], type := 28, pos := "ref.go:23", after := #[{ on := 5, ground := Ground.data }], guard := none } : Oper)) rfl (fun K hK => ?_) AllReadyH.nil
                go_simp
                refine hK.out _ _ (trivial) (fun hHeld => ?_)
                clear hK K
                try simp only [Act.put, List.setIfInBounds_toArray, List.set_cons_zero, List.set_cons_succ]
                refine wpAnyH_ready (rs := [7]) (by kernel_rfl) (by simp) ?_
                refine AllReadyH.cons (o := ({ dst := some 40, op := Op.call { callee := Callee.builtin Builtin.append, args := #[Operand.tmp 34, Operand.tmp 39], argTypes := #[28, 28] }, type := 28, pos := "ref.go:23", after := #[{ on := 1, ground := Ground.data }, { on := 6, ground := Ground.data }, { on := 5, ground := Ground.chain }], guard := none } : Oper)) rfl (fun K hK => ?_) AllReadyH.nil
                refine Kd.R_append_step kH (W := w6) (w0 := W5) (w.heap.size + 2) (by rfl) (.tmp 34) (.tmp 39) 28 24 (.agg (nums .u8 (List.replicate 32 0)).toArray) 32 (by rfl) Tryd.underlying28 info32c rfl (by decide) (by decide) v (ys.take k) (nodeP xs k ot) P (fun _ => True) (fun _ => False) (by rfl) (by rfl) (HCM.out _) (fun _ h => h.elim) (fun _ _ => trivial) (Kd.R_below HF5.out.2.2.2 HB6.out) (Below.mono HB6.out HBS.out) (Nat.le_trans HBS.out HB6.out.size) HTL.out ?_
                intro v4 w7 ho hb hg hat
                have HA := Lib.hid (HAFTER.out W5 w6 _ v4 w7 HF5.out HB6.out HND.out ho hg hb)
                clear ho hb hg hat
                refine hK.out _ _ (trivial) (fun hHeld => ?_)
                clear hK K
                try simp only [Act.put, List.setIfInBounds_toArray, List.set_cons_zero, List.set_cons_succ]
                have hst := HA.out.1
                refine wpAnyH_take (i := 8) (oi := ({ dst := some 41, op := Op.fieldAddr 46 (Operand.tmp 5) 2, type := 0, pos := "ref.go:23", after := #[{ on := 0, ground := Ground.phase }, { on := 1, ground := Ground.phase }, { on := 2, ground := Ground.phase }, { on := 3, ground := Ground.phase }, { on := 4, ground := Ground.phase }, { on := 5, ground := Ground.phase }, { on := 6, ground := Ground.phase }, { on := 7, ground := Ground.phase }], guard := none } : Oper)) (v := .pointer (some ⟨w.heap.size + 1, 2, none⟩)) rfl (by kernel_rfl) (by kernel_rfl) (by kernel_rfl) (fun _ _ _ h => h) (Or.inl ⟨by rfl, fun w hSw => by go_simp⟩) hHeld ?_
                simp only [Act.put, List.setIfInBounds_toArray, List.set_cons_zero, List.set_cons_succ]
                refine wpAnyH_ready (rs := [9]) (by kernel_rfl) (by simp) ?_
                refine AllReadyH.cons (o := ({ dst := none, op := Op.store 28 (Operand.tmp 41) (Operand.tmp 40), type := 0, pos := "ref.go:23", after := #[{ on := 8, ground := Ground.data }, { on := 7, ground := Ground.data }, { on := 7, ground := Ground.chain }, { on := 0, ground := Ground.phase }, { on := 1, ground := Ground.phase }, { on := 2, ground := Ground.phase }, { on := 3, ground := Ground.phase }, { on := 4, ground := Ground.phase }, { on := 5, ground := Ground.phase }, { on := 6, ground := Ground.phase }, { on := 7, ground := Ground.phase }], guard := none } : Oper)) rfl (fun K hK => ?_) AllReadyH.nil
                go_simp
                refine hK.out _ _ (trivial) (fun hHeld => ?_)
                clear hK K
                try simp only [Act.put, List.setIfInBounds_toArray, List.set_cons_zero, List.set_cons_succ]
                refine wpAnyH_done (by kernel_rfl) ?_ _
                clear hst hHeld hbs
                go_wp2_with fail
                go_meet
                exact Lib.hid HA.out.2
              · skip
                go_simp
                refine hK.out _ _ (trivial) (fun hHeld => ?_)
                clear hK K
                try simp only [Act.put, List.setIfInBounds_toArray, List.set_cons_zero, List.set_cons_succ]
                refine wpAnyH_ready (rs := [1]) (by kernel_rfl) (by simp) ?_
                refine AllReadyH.cons (o := ({ dst := some 34, op := Op.load 28 (Operand.tmp 33), type := 28, pos := "ref.go:23", after := #[{ on := 0, ground := Ground.data }], guard := none } : Oper)) rfl (fun K hK => ?_) AllReadyH.nil
                go_simp
                refine hK.out _ _ (trivial) (fun hHeld => ?_)
                clear hK K
                try simp only [Act.put, List.setIfInBounds_toArray, List.set_cons_zero, List.set_cons_succ]
                clear hl1 hl2
                refine wpAnyH_ready (rs := [7]) (by kernel_rfl) (by simp) ?_
                refine AllReadyH.cons (o := ({ dst := some 40, op := Op.call { callee := Callee.builtin Builtin.append, args := #[Operand.tmp 34, Operand.tmp 39], argTypes := #[28, 28] }, type := 28, pos := "ref.go:23", after := #[{ on := 1, ground := Ground.data }, { on := 6, ground := Ground.data }, { on := 5, ground := Ground.chain }], guard := none } : Oper)) rfl (fun K hK => ?_) AllReadyH.nil
                refine Kd.R_append_step kH (W := w6) (w0 := W5) (w.heap.size + 2) (by rfl) (.tmp 34) (.tmp 39) 28 24 (.agg (nums .u8 (List.replicate 32 0)).toArray) 32 (by rfl) Tryd.underlying28 info32c rfl (by decide) (by decide) v (ys.take k) (nodeP xs k ot) P (fun _ => True) (fun _ => False) (by rfl) (by rfl) (HCM.out _) (fun _ h => h.elim) (fun _ _ => trivial) (Kd.R_below HF5.out.2.2.2 HB6.out) (Below.mono HB6.out HBS.out) (Nat.le_trans HBS.out HB6.out.size) HTL.out ?_
                intro v4 w7 ho hb hg hat
                have HA := Lib.hid (HAFTER.out W5 w6 _ v4 w7 HF5.out HB6.out HND.out ho hg hb)
                clear ho hb hg hat
                refine hK.out _ _ (trivial) (fun hHeld => ?_)
                clear hK K
                try simp only [Act.put, List.setIfInBounds_toArray, List.set_cons_zero, List.set_cons_succ]
                have hst := HA.out.1
                refine wpAnyH_take (i := 8) (oi := ({ dst := some 41, op := Op.fieldAddr 46 (Operand.tmp 5) 2, type := 0, pos := "ref.go:23", after := #[{ on := 0, ground := Ground.phase }, { on := 1, ground := Ground.phase }, { on := 2, ground := Ground.phase }, { on := 3, ground := Ground.phase }, { on := 4, ground := Ground.phase }, { on := 5, ground := Ground.phase }, { on := 6, ground := Ground.phase }, { on := 7, ground := Ground.phase }], guard := none } : Oper)) (v := .pointer (some ⟨w.heap.size + 1, 2, none⟩)) rfl (by kernel_rfl) (by kernel_rfl) (by kernel_rfl) (fun _ _ _ h => h) (Or.inl ⟨by rfl, fun w hSw => by go_simp⟩) hHeld ?_
                simp only [Act.put, List.setIfInBounds_toArray, List.set_cons_zero, List.set_cons_succ]
                refine wpAnyH_ready (rs := [9]) (by kernel_rfl) (by simp) ?_
                refine AllReadyH.cons (o := ({ dst := none, op := Op.store 28 (Operand.tmp 41) (Operand.tmp 40), type := 0, pos := "ref.go:23", after := #[{ on := 8, ground := Ground.data }, { on := 7, ground := Ground.data }, { on := 7, ground := Ground.chain }, { on := 0, ground := Ground.phase }, { on := 1, ground := Ground.phase }, { on := 2, ground := Ground.phase }, { on := 3, ground := Ground.phase }, { on := 4, ground := Ground.phase }, { on := 5, ground := Ground.phase }, { on := 6, ground := Ground.phase }, { on := 7, ground := Ground.phase }], guard := none } : Oper)) rfl (fun K hK => ?_) AllReadyH.nil
                go_simp
                refine hK.out _ _ (trivial) (fun hHeld => ?_)
                clear hK K
                try simp only [Act.put, List.setIfInBounds_toArray, List.set_cons_zero, List.set_cons_succ]
                refine wpAnyH_done (by kernel_rfl) ?_ _
                clear hst hHeld hbs
                go_wp2_with fail
                go_meet
                exact Lib.hid HA.out.2
          case rest =>
            have HA2 := Lib.hid hcut.out
            clear hcut
            go_wp2_with fail
            have hwj := half64 (a := a) (Nat.le_trans (Nat.le_of_lt haV) (Nat.le_trans hVn (Nat.le_trans hl (by decide))))
            have hwk : wrap64 ((k : Int) + 1) = ((k + 1 : Nat) : Int) := wrap64_succ (Nat.lt_of_le_of_lt (Nat.le_trans hkd hd16) (by decide))
            try rw [hwk]
            try rw [hwj]
            go_roundw
            case rel => exact ⟨k + 1, a / 2, rfl, rfl, Lib.hid HA2.out⟩
            case measure => exact count_next hlt
    · have he : k = d := by omega
      subst he
      have gk : ¬ (k : Int) < (k : Int) := by omega
      obtain ⟨A2, c2, rfl, hc2, hC2⟩ := Kd.R_reads HRV2.out
      have htk : ys.take k = ys := List.take_of_length_le (by omega)
      have hRV := HRV2.out
      rw [htk, hyl] at hc2 hC2
      have hBC := HBC2.out
      rw [htk, hyl] at hBC
      rw [htk, hyl] at hRV
      have HO := Lib.hid (show ∀ b o, A2 = some ⟨b, o, none⟩ → b ≠ w.heap.size from fun b o e => by subst e; have := Kd.R_base hRV b rfl; omega)
      have HBC := Lib.hid hBC
      have HFIN := Lib.hid (show Kd.C kH (W2.setRow w.heap.size #[.int .i64 (n : Int), .int .i64 (i : Int), .slice A2 k c2]) A2 k ys from by
        have h := C_setRow (g := w.heap.size) (cs := #[.int .i64 (n : Int), .int .i64 (i : Int), .slice A2 k c2]) (by rw [hyl]; exact hC2) HY.out.1 HO.out
        rw [hyl] at h
        exact h)
      clear hC2 hRV hBC HRV2 HBC2 htk
      go_wp2_with (first
        | ((with_reducible show wpList _ _ _ (Oper.mk _ (Op.load _ (.tmp 5)) _ _ _ _ :: _) _ _); (go_loud (refine wpList_load_row rfl 46 (.tmp 5) rfl (w.heap.size + 1) rfl 46 #[.int .i64 (n : Int), .int .i64 (i : Int), .slice A2 k c2] (0, 0) _ HBC.out HI.out.1 rfl HI.out.2.1 ?_)))
        | ((with_reducible show wpList _ _ _ (Oper.mk _ (Op.store _ (.tmp 4) _) _ _ _ _ :: _) _ _); (go_loud (refine wpList_store_row rfl 46 (.tmp 4) (.tmp 44) rfl w.heap.size #[.int .i64 (n : Int), .int .i64 (i : Int), .slice A2 k c2] rfl rfl 46 #[.int .i64 0, .int .i64 0, .slice none 0 0] HZC2.out HI.out.2.1 rfl (by simp [Value.oneCell']) ?_))))
      exact bodyPost_ret (results_cell_row rfl _ _ w.heap.size 46 #[.int .i64 (n : Int), .int .i64 (i : Int), .slice A2 k c2] (0, 0) _ rfl (setRow_heap _ _ _ _ _ _ HZC2.out) HI.out.1 rfl HI.out.2.1) rfl ⟨A2, c2, rfl, hc2, HFIN.out, below_setRow HBW2.out (Nat.le_refl _) _⟩
end Go.Proofs.YtlmcdkjobdcflaaDoor.Hand
