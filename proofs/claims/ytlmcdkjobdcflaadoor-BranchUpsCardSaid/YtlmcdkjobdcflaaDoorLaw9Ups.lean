/- The law BranchUps: walked. -/
import Derived.Test.YtlmcdkjobdcflaaDoorProg
import Derived.Below
import Derived.Deep.Draws
import Derived.Deep.AppendLies
import Derived.Maps.AppendAt
import Derived.OwnWalk
import Derived.Laws.BytesArg
import Derived.Laws.MakeOwn
import Derived.Laws.OwnMore
import Derived.Deep.OwnRows
import Derived.Tactics
import Derived.Lib.ConvBytes
import Derived.Laws.Slices
import Derived.WalkKit
import Derived.KernelRfl
import Derived.RowKit3
import Derived.Deep.LoopGhost
import Derived.Deep.QuietTactic
import Derived.BigQuiet
import Derived.WideLaws
import Derived.Deep.DeepCutAuto
import Derived.Deep.CutBlock
import Derived.Deep.RegionHeld3
import Derived.Laws.Rows
import Derived.Lib.AppendStr
import Derived.ArgAppend
import Derived.Laws.IdiomCopy
import Derived.OrdersHeld
import Derived.Laws.BitsLemmas
import Derived.RowKit
import Derived.StillTailTactics
import Derived.Test.YtlmcdkjobdcflaaDoorWWords
import Derived.Test.YtlmcdkjobdcflaaDoorWLast
import Derived.Test.YtlmcdkjobdcflaaDoorWMore
import Derived.Lib.Hide
import Derived.Outline
import Derived.Deep.MidRow
import Derived.Deep.WholeRow
import Derived.Deep.DrawnRows
import Derived.Test.YtlmcdkjobdcflaaDoorRefUp
namespace Go.Proofs.YtlmcdkjobdcflaaDoor.Hand
open Go Go.RowKit Go.Proofs.YtlmcdkjobdcflaaDoor.Plain Go.Proofs.YtlmcdkjobdcflaaDoor.PAll Go.Proofs.YtlmcdkjobdcflaaDoorW.PrintWords Go.Proofs.YtlmcdkjobdcflaaDoorW.PrintLast Go.Proofs.YtlmcdkjobdcflaaDoorW.PrintMore
set_option linter.unusedVariables false
set_option linter.unusedSimpArgs false
set_option maxRecDepth 100000
attribute [local go_sem ↓] Go.wp_at_zero Go.wp_at_succ
attribute [-go_sem] loadVar storeVar Instr.buildSlice
theorem wp_act {P : Program} {C : Code} {Q : Exit → Act → World → Prop} {a : Act} {w : World} (h : ∀ a0, a0 = a → C.wp P Q a0 w) : C.wp P Q a w := h a rfl
set_option maxHeartbeats 8000000 in
theorem ups9_calls (cnt idx : Int) (A : Option Addr) (m c : Nat) (xs : List (List Int)) (leaf root : List Int) (w : World) (hm : m = xs.length) (hr : Kd.C kH w A m xs) (hc : m ≤ c) (hH : Hs xs) (hleaf : leaf.length = 32 ∧ ∀ x ∈ leaf, 0 ≤ x ∧ x < 256) (hroot : root.length = 32 ∧ ∀ x ∈ root, 0 ≤ x ∧ x < 256) (hK : KT w)
    (h0 : -9223372036854775808 ≤ cnt) (h1 : cnt ≤ 9223372036854775807) :
    Calls Tryd.prog 10 #[bV cnt idx A m c, .agg (nums .u8 leaf).toArray, .agg (nums .u8 root).toArray] w fun e w' => e = .returned (.bool true) ∧ Below w.heap.size w w' := by
  have hmx := Kd.C_max hr
  have HAW := Lib.hid (fun (u : World) (hu : Below w.heap.size w u) => awake9_calls u (hK.below hu (Nat.le_refl _)))
  have hLl : (nums .u8 leaf).length = 32 := by rw [nums_len]; exact hleaf.1
  have hRl : (nums .u8 root).length = 32 := by rw [nums_len]; exact hroot.1
  obtain ⟨LC, hLC⟩ : ∃ X, nums .u8 leaf = X := ⟨_, rfl⟩
  obtain ⟨RC, hRC⟩ : ∃ X, nums .u8 root = X := ⟨_, rfl⟩
  rw [hLC] at hLl ⊢
  rw [hRC] at hRl ⊢
  obtain ⟨hA0, hL0, hR0⟩ := alloc3 w (.cells #[.int .i64 cnt, .int .i64 idx, .slice A m c] 41) (.cells LC.toArray 25) (.cells RC.toArray 25)
  have HB0 := Lib.hid (below_alloc (below_alloc (below_alloc (Below.refl w.heap.size w) (.cells #[.int .i64 cnt, .int .i64 idx, .slice A m c] 41)) (.cells LC.toArray 25)) (.cells RC.toArray 25))
  have hld2 := run_load_hs (((w.alloc (.cells #[.int .i64 cnt, .int .i64 idx, .slice A m c] 41)).alloc (.cells LC.toArray 25)).alloc (.cells RC.toArray 25)) ⟨w.heap.size, 2, none⟩ _ ((blk_cell hA0 2).trans rfl)
  obtain ⟨W0, hW0⟩ : ∃ W0, ((w.alloc (.cells #[.int .i64 cnt, .int .i64 idx, .slice A m c] 41)).alloc (.cells LC.toArray 25)).alloc (.cells RC.toArray 25) = W0 := ⟨_, rfl⟩
  rw [hW0] at hA0 hL0 hR0 HB0
  have HW0 := Lib.hid hW0
  have HI9 := Lib.hid (And.intro Tryd.underlying41 (zero_of_info infoB9).2)
  unfold bV
  by_cases hbig : 20 < m
  · have f0 : (20 : Int) < (m : Int) := by omega
    clear hm hr hH hK hleaf hroot hLl hRl hLC hRC hA0 hL0 hR0 hW0
    go_enter Tryd.func10, Tryd.ntmps10
    go_wp2_with fail
    rw [HW0.out]
    refine (HAW.out _ HB0.out).mono ?_
    rintro e w1 ⟨rfl, hb⟩
    go_wp2_with fail
    go_ret
    exact ⟨rfl, HB0.out.trans (Below.mono hb HB0.out.size)⟩
  · have hm20 : m ≤ 20 := by omega
    have f0 : ¬ (20 : Int) < (m : Int) := by omega
    have hth := upP_hash cnt idx xs hleaf
    obtain ⟨tp, htp⟩ : ∃ x, upP cnt idx xs leaf = x := ⟨_, rfl⟩
    have HUP := Lib.hid (fun (u : World) (hu : Below w.heap.size w u) => up_calls cnt idx A m c xs leaf u hm (Kd.C_below hr hu) hc hH hleaf.1 hleaf.2 (hK.below hu (Nat.le_refl _)) h0 h1)
    have HRU := Lib.hid (fun (A2 : Option Addr) (c2 : Nat) (u : World) (hr2 : Kd.C kH u A2 m xs) (hc2 : m ≤ c2) => rup_calls cnt idx A2 m c2 xs leaf u hm hr2 hc2 (by omega) hH hleaf.1 hleaf.2 h0 h1)
    have HRF := Lib.hid (fun (u : World) (hu : Below w.heap.size w u) => lref9_calls cnt idx A m c xs u hm (Kd.C_below hr hu) hc (by omega) hH)
    have HRI := Lib.hid (fun u => bright_calls cnt idx A m c u hmx h0 h1)
    have HRR := Lib.hid (fun (A2 : Option Addr) (c2 : Nat) (u : World) => rright_calls cnt idx A2 m c2 u hmx h0 h1)
    have HCK := Lib.hid (fun (rt : List Int) (h32 : rt.length = 32) (u : World) (hu : Below w.heap.size w u) => check_calls cnt idx A m c xs rt leaf u hm (Kd.C_below hr hu) hc hH h32 hleaf.1 hleaf.2 (hK.below hu (Nat.le_refl _)) h0 h1)
    unfold checkP at HCK
    rw [htp] at HUP HRU HCK hth
    obtain ⟨T, E⟩ := tp
    simp only at HUP HRU HCK hth
    unfold bV at HUP HRU HRF HRI HRR HCK
    have HTE := Lib.hid (show E ≠ 0 → T = z32h ∨ True from fun _ => Or.inr trivial)
    obtain ⟨B9, hB9⟩ : ∃ x, brightP cnt idx m = x := ⟨_, rfl⟩
    rw [hB9] at HRI HRR
    have hTl : (nums .u8 T).length = 32 := by rw [nums_len]; exact hth.1
    have hT1 := nums_one .u8 T
    have hZ25 := (zero_of_info infoHash).1
    have hZ24 := (zero_of_info info32b).1
    have hZl : (nums .u8 (List.replicate 32 0)).length = 32 := rfl
    have q0 := fun u => eqH root T hroot.1 hth.1 u
    have qq := fun u => eqH T T hth.1 hth.1 u
    simp only [beq_self_eq_true] at qq
    have HCT := Lib.hid (HCK.out T hth.1)
    have HCR := Lib.hid (HCK.out root hroot.1)
    obtain ⟨TC, hTC⟩ : ∃ X, nums .u8 T = X := ⟨_, rfl⟩
    obtain ⟨Z, hZ⟩ : ∃ X, nums .u8 (List.replicate 32 0) = X := ⟨_, rfl⟩
    rw [hTC] at hTl hT1 HUP HRU HCT q0 qq
    rw [hLC] at HUP HRU HCT HCR
    rw [hRC] at HCR q0
    rw [hZ] at hZ25 hZ24 hZl
    have hiL : (Tryd.prog.info? 25).map (·.size) = some LC.length := by rw [hLl]; exact (zero_of_info infoHash).2
    have hiR : (Tryd.prog.info? 25).map (·.size) = some RC.length := by rw [hRl]; exact (zero_of_info infoHash).2
    have hiT : (Tryd.prog.info? 25).map (·.size) = some TC.length := by rw [hTl]; exact (zero_of_info infoHash).2
    have HIT := Lib.hid (show (Tryd.prog.info? 25).map (·.size) = some TC.toArray.size ∧ Z.toArray.size = TC.toArray.size ∧ TC.toArray.all (·.oneCell') = true ∧ (Tryd.prog.info? 24).map (·.size) = some TC.toArray.size ∧ (Tryd.prog.info? 24).map (·.size) = some TC.length from ⟨by rw [List.size_toArray, hTl]; exact (zero_of_info infoHash).2, by rw [List.size_toArray, List.size_toArray, hTl, hZl], all_oneCell_toArray hT1, by rw [List.size_toArray, hTl]; exact (zero_of_info info32b).2, by rw [hTl]; exact (zero_of_info info32b).2⟩)
    have hu := Tryd.underlying25
    have hu24 := Tryd.underlying24
    have hld4 := run_loadVar_row (P := Tryd.prog) W0 w.heap.size 41 41 _ (0, 0) _ hA0 HI9.out.1 rfl HI9.out.2
    have HIL5 := Lib.hid (show (Tryd.prog.info? 25).map (·.size) = some LC.toArray.size from by rw [List.size_toArray, hLl]; exact (zero_of_info infoHash).2)
    have HUW := Lib.hid (HUP.out _ HB0.out)
    have HBK := Lib.hid (And.intro hA0 (And.intro hL0 hR0))
    have HTH := Lib.hid hth
    clear hm hr hH hK hleaf hroot hLl hRl hLC hRC hA0 hL0 hR0 hW0 hTC hZ hth hTl hT1 hZl htp hB9 HUP h0 h1 hc
    go_enter Tryd.func10, Tryd.ntmps10
    go_wp2_with (first
      | ((with_reducible show wpList _ _ _ (Oper.mk _ (Op.load _ (.tmp 3)) _ _ _ _ :: _) _ _); rw [HW0.out]; (go_loud (refine wpList_load_row rfl 41 (.tmp 3) rfl w.heap.size rfl 41 #[.int .i64 cnt, .int .i64 idx, .slice A m c] (0, 0) _ HBK.out.1 HI9.out.1 rfl HI9.out.2 ?_)))
      | ((with_reducible show wpList _ _ _ (Oper.mk _ (Op.load _ (.tmp 4)) _ _ _ _ :: _) _ _); (go_loud (refine wpList_load_row rfl 25 (.tmp 4) rfl (w.heap.size + 1) rfl 25 LC.toArray (0, 0) _ HBK.out.2.1 hu rfl HIL5.out ?_))))
    refine HUW.out.mono ?_
    rintro e w1 ⟨rfl, hb1⟩
    have hk2 := heap_alloc_new w1 (.cells TC.toArray 25)
    have hb2 := below_alloc (Below.refl w1.heap.size w1) (.cells TC.toArray 25)
    have hA1 := (hb1.block _ (blk_lt HBK.out.1)).trans HBK.out.1
    have hL1 := (hb1.block _ (blk_lt HBK.out.2.1)).trans HBK.out.2.1
    have hR1 := (hb1.block _ (blk_lt HBK.out.2.2)).trans HBK.out.2.2
    obtain ⟨W2, hW2⟩ : ∃ W, w1.alloc (.cells TC.toArray 25) = W := ⟨_, rfl⟩
    rw [hW2] at hk2 hb2
    have hs2 := hb2.size
    have HB2 := Lib.hid ((HB0.out.trans (Below.mono hb1 HB0.out.size)).trans (Below.mono hb2 (HB0.out.trans (Below.mono hb1 HB0.out.size)).size))
    have hrow : ∀ (u : World) (g : Nat) (X : List Value) (t : TypeId), u.heap[g]? = some (.cells X.toArray t (0, 0)) → u.rangeAt g 0 X := fun u g X t h j v hj => by
      rw [Nat.zero_add, blk_cell h, List.getElem?_toArray]
      exact hj
    have HSS := Lib.hid (show ∀ u : World, Below W2.heap.size W2 u → (loadVar 41 ⟨w.heap.size, 0, none⟩).run Tryd.prog u = .ok (.agg #[.int .i64 cnt, .int .i64 idx, .slice A m c]) u ∧ u.rangeAt (w.heap.size + 1) 0 LC ∧ u.rangeAt (w.heap.size + 1 + 1) 0 RC ∧ u.rangeAt w1.heap.size 0 TC from fun u h => by
      have hB := hb2.trans (Below.mono h hs2)
      exact ⟨run_loadVar_row (P := Tryd.prog) u w.heap.size 41 41 _ (0, 0) _ ((hB.block _ (blk_lt hA1)).trans hA1) HI9.out.1 rfl HI9.out.2, hrow _ _ _ _ ((hB.block _ (blk_lt hL1)).trans hL1), hrow _ _ _ _ ((hB.block _ (blk_lt hR1)).trans hR1), hrow _ _ _ _ ((h.block _ (blk_lt hk2)).trans hk2)⟩)
    have HLD := Lib.hid (show ∀ u : World, Below W2.heap.size W2 u → u.heap[w.heap.size]? = some (.cells #[.int .i64 cnt, .int .i64 idx, .slice A m c] 41 (0, 0)) ∧ u.heap[w.heap.size + 1]? = some (.cells LC.toArray 25 (0, 0)) ∧ u.heap[w.heap.size + 1 + 1]? = some (.cells RC.toArray 25 (0, 0)) from fun u h => by
      have hB := hb2.trans (Below.mono h hs2)
      exact ⟨(hB.block _ (blk_lt hA1)).trans hA1, (hB.block _ (blk_lt hL1)).trans hL1, (hB.block _ (blk_lt hR1)).trans hR1⟩)
    have HTO := Lib.hid (show ∀ u : World, Below W2.heap.size W2 u → Below w.heap.size w u from fun u h => HB2.out.trans (Below.mono h HB2.out.size))
    have HTR := Lib.hid (show ∀ u u' : World, Below W2.heap.size W2 u → Below u.heap.size u u' → Below W2.heap.size W2 u' from fun u u' hu hu' => hu.trans (Below.mono hu' hu.size))
    have HROW := Lib.hid hrow
    have HW2 := Lib.hid hW2
    clear hk2 hb2 hs2 hW2 hb1 hA1 hL1 hR1 hrow hld4
    go_wp2_with ((with_reducible show wpList _ _ _ (Oper.mk _ (Op.store _ (.tmp 7) _) _ _ _ _ :: _) _ _); (go_loud (refine wpl_store_new rfl 25 (.tmp 7) (.tmp 20) rfl Z.toArray TC.toArray rfl rfl HIT.out.1 HIT.out.2.1 HIT.out.2.2.1 ?_)))
    rw [HW2.out]
    go_cut [9, 10] from 23 to 28 (fun x9 x10 wx => ∃ g9, x9 = .pointer (some ⟨g9, 0, none⟩) ∧ x10 = .int .i64 E ∧ Hid (wx.heap[g9]? = some (.cells TC.toArray 24 (0, 0)) ∧ Below W2.heap.size W2 wx))
    case first =>
      have HBD := Lib.hid (below_drew (Below.refl W2.heap.size W2))
      have hHeld := HSS.out _ HBD.out
      refine wp_region_held (S := fun u => (loadVar 41 ⟨w.heap.size, 0, none⟩).run Tryd.prog u = .ok (.agg #[.int .i64 cnt, .int .i64 idx, .slice A m c]) u ∧ u.rangeAt (w.heap.size + 1) 0 LC ∧ u.rangeAt (w.heap.size + 1 + 1) 0 RC ∧ u.rangeAt w1.heap.size 0 TC) (by kernel_rfl) ?_
      change wpAnyH _ _ _ _ _ _ _ _ (World.drew _)
      refine wpAnyH_take (i := 0) (oi := ({ dst := some 23, op := Op.load 41 (Operand.tmp 3), type := 41, pos := "law.go:63", after := #[], guard := none } : Oper)) (v := .agg #[.int .i64 cnt, .int .i64 idx, .slice A m c]) rfl (by kernel_rfl) (by kernel_rfl) (by kernel_rfl) (fun _ _ _ h => h) (Or.inl ⟨by rfl, fun w hSw => by obtain ⟨z0, z1⟩ := hSw; go_simp⟩) hHeld ?_
      simp only [Act.put, List.setIfInBounds_toArray, List.set_cons_zero, List.set_cons_succ]
      refine wpAnyH_take (i := 2) (oi := ({ dst := some 25, op := Op.load 25 (Operand.tmp 4), type := 25, pos := "law.go:63", after := #[], guard := none } : Oper)) (v := .agg LC.toArray) rfl (by kernel_rfl) (by kernel_rfl) (by kernel_rfl) (fun _ _ _ h => h) (yieldsIf_load_mid (by rfl) _ _ rfl (w.heap.size + 1) 0 rfl LC _ (fun _ h => h.2.1) hu rfl hiL) hHeld ?_
      simp only [Act.put, List.setIfInBounds_toArray, List.set_cons_zero, List.set_cons_succ]
      refine wpAnyH_ready (rs := [1, 7]) (by kernel_rfl) (by simp) ?_
      refine AllReadyH.cons (o := ({ dst := some 24, op := Op.call { callee := Callee.value (Operand.func 36), args := #[Operand.tmp 23], argTypes := #[41] }, type := 46, pos := "law.go:63", after := #[{ on := 0, ground := Ground.data }], guard := none } : Oper)) rfl (fun K hK => ?_) (AllReadyH.cons (o := ({ dst := some 9, op := Op.alloc 24, type := 0, pos := "law.go:63", after := #[], guard := none } : Oper)) rfl (fun K hK => ?_) AllReadyH.nil)
      · skip
        go_simp
        (with_reducible refine (HRF.out _ (HTO.out _ HBD.out)).mono ?_)
        rintro e w5 ⟨A2, c2, rfl, hc2, hC2, hb5⟩
        have HB5 := Lib.hid (HTR.out _ _ HBD.out hb5)
        have HC5 := Lib.hid (And.intro hc2 hC2)
        have HX5 := Lib.hid hb5
        clear hc2 hC2 hb5
        go_wp2_with fail
        refine hK.out _ _ (HSS.out _ HB5.out) (fun hHeld => ?_)
        clear hK K
        try simp only [Act.put, List.setIfInBounds_toArray, List.set_cons_zero, List.set_cons_succ]
        refine wpAnyH_ready (rs := [3, 7]) (by kernel_rfl) (by simp) ?_
        refine AllReadyH.cons (o := ({ dst := some 26, op := Op.call { callee := Callee.value (Operand.func 35), args := #[Operand.tmp 24, Operand.tmp 25], argTypes := #[46, 24] }, type := 52, pos := "law.go:63", after := #[{ on := 1, ground := Ground.data }, { on := 2, ground := Ground.data }, { on := 1, ground := Ground.chain }], guard := none } : Oper)) rfl (fun K hK => ?_) (AllReadyH.cons (o := ({ dst := some 9, op := Op.alloc 24, type := 0, pos := "law.go:63", after := #[], guard := none } : Oper)) rfl (fun K hK => ?_) AllReadyH.nil)
        · skip
          go_simp
          (with_reducible refine (HRU.out A2 c2 _ (HC5.out.2) HC5.out.1).mono ?_)
          rintro e w6 ⟨rfl, hb6⟩
          have HB6 := Lib.hid (HTR.out _ _ HB5.out hb6)
          have HX6 := Lib.hid hb6
          clear hb6
          go_wp2_with fail
          refine hK.out _ _ (HSS.out _ HB6.out) (fun hHeld => ?_)
          clear hK K
          try simp only [Act.put, List.setIfInBounds_toArray, List.set_cons_zero, List.set_cons_succ]
          refine wpAnyH_take (i := 4) (oi := ({ dst := some 22, op := Op.move (Operand.tmp 26), type := 52, pos := "law.go:63", after := #[{ on := 3, ground := Ground.data }], guard := none } : Oper)) (v := .tuple #[.agg TC.toArray, .int .i64 E]) rfl (by kernel_rfl) (by kernel_rfl) (by kernel_rfl) (fun _ _ _ h => h) (Or.inl ⟨by rfl, fun w hSw => by go_simp⟩) hHeld ?_
          simp only [Act.put, List.setIfInBounds_toArray, List.set_cons_zero, List.set_cons_succ]
          refine wpAnyH_take (i := 5) (oi := ({ dst := some 27, op := Op.extract (Operand.tmp 22) 0, type := 24, pos := "law.go:63", after := #[{ on := 4, ground := Ground.data }], guard := none } : Oper)) (v := .agg TC.toArray) rfl (by kernel_rfl) (by kernel_rfl) (by kernel_rfl) (fun _ _ _ h => h) (Or.inl ⟨by rfl, fun w hSw => by go_simp⟩) hHeld ?_
          simp only [Act.put, List.setIfInBounds_toArray, List.set_cons_zero, List.set_cons_succ]
          refine wpAnyH_take (i := 6) (oi := ({ dst := some 28, op := Op.extract (Operand.tmp 22) 1, type := 3, pos := "law.go:63", after := #[{ on := 4, ground := Ground.data }, { on := 8, ground := Ground.gcOnly Departure.lateStores }], guard := none } : Oper)) (v := .int .i64 E) rfl (by kernel_rfl) (by kernel_rfl) (by kernel_rfl) (fun _ _ _ h => h) (Or.inl ⟨by rfl, fun w hSw => by go_simp⟩) hHeld ?_
          simp only [Act.put, List.setIfInBounds_toArray, List.set_cons_zero, List.set_cons_succ]
          have HB7 := Lib.hid (HTR.out _ _ HB6.out (below_alloc (Below.refl w6.heap.size w6) (.cells Z.toArray 24)))
          refine wpAnyH_ready (rs := [7]) (by kernel_rfl) (by simp) ?_
          refine AllReadyH.cons (o := ({ dst := some 9, op := Op.alloc 24, type := 0, pos := "law.go:63", after := #[], guard := none } : Oper)) rfl (fun K hK => ?_) AllReadyH.nil
          go_simp
          refine hK.out _ _ (HSS.out _ HB7.out) (fun hHeld => ?_)
          clear hK K
          try simp only [Act.put, List.setIfInBounds_toArray, List.set_cons_zero, List.set_cons_succ]
          have HB8 := Lib.hid (below_setRow HB7.out (HB6.out.size) TC.toArray)
          have HK8 := Lib.hid (heap_alloc_new w6 (.cells Z.toArray 24))
          refine wpAnyH_ready (rs := [8]) (by kernel_rfl) (by simp) ?_
          refine AllReadyH.cons (o := ({ dst := none, op := Op.store 24 (Operand.tmp 9) (Operand.tmp 27), type := 0, pos := "law.go:63", after := #[{ on := 7, ground := Ground.data }, { on := 5, ground := Ground.data }, { on := 3, ground := Ground.chain }, { on := 0, ground := Ground.phase }, { on := 1, ground := Ground.phase }, { on := 2, ground := Ground.phase }, { on := 3, ground := Ground.phase }, { on := 4, ground := Ground.phase }, { on := 5, ground := Ground.phase }, { on := 6, ground := Ground.textOnly Departure.lateStores }, { on := 7, ground := Ground.phase }], guard := none } : Oper)) rfl (fun K hK => ?_) AllReadyH.nil
          rw [if_pos (by rfl)]
          refine wp_store_row 24 (.tmp 9) (.tmp 27) rfl w6.heap.size TC.toArray (by rfl) (by rfl) 24 Z.toArray HK8.out HIT.out.2.2.2.1 HIT.out.2.1 HIT.out.2.2.1 ?_
          refine hK.out _ _ (HSS.out _ HB8.out) (fun hHeld => ?_)
          clear hK K
          try simp only [Act.put, List.setIfInBounds_toArray, List.set_cons_zero, List.set_cons_succ]
          refine wpAnyH_take (i := 9) (oi := ({ dst := some 10, op := Op.assign (Operand.tmp 28), type := 3, pos := "law.go:63", after := #[{ on := 6, ground := Ground.data }, { on := 8, ground := Ground.chain }, { on := 0, ground := Ground.phase }, { on := 1, ground := Ground.phase }, { on := 2, ground := Ground.phase }, { on := 3, ground := Ground.phase }, { on := 4, ground := Ground.phase }, { on := 5, ground := Ground.phase }, { on := 6, ground := Ground.phase }, { on := 7, ground := Ground.phase }, { on := 8, ground := Ground.phase }], guard := none } : Oper)) (v := .int .i64 E) rfl (by kernel_rfl) (by kernel_rfl) (by kernel_rfl) (fun _ _ _ h => h) (Or.inl ⟨by rfl, fun w hSw => by go_simp⟩) hHeld ?_
          simp only [Act.put, List.setIfInBounds_toArray, List.set_cons_zero, List.set_cons_succ]
          refine wpAnyH_done (by kernel_rfl) ?_ _
          clear hHeld
          go_wp2_with fail
          go_meet
          exact ⟨_, rfl, rfl, Lib.hid ⟨setRow_heap _ _ _ _ _ _ HK8.out, HB8.out⟩⟩
        · skip
          have HB7 := Lib.hid (HTR.out _ _ HB5.out (below_alloc (Below.refl w5.heap.size w5) (.cells Z.toArray 24)))
          have HK7 := Lib.hid (heap_alloc_new w5 (.cells Z.toArray 24))
          go_simp
          refine hK.out _ _ (HSS.out _ HB7.out) (fun hHeld => ?_)
          clear hK K
          try simp only [Act.put, List.setIfInBounds_toArray, List.set_cons_zero, List.set_cons_succ]
          refine wpAnyH_ready (rs := [3]) (by kernel_rfl) (by simp) ?_
          refine AllReadyH.cons (o := ({ dst := some 26, op := Op.call { callee := Callee.value (Operand.func 35), args := #[Operand.tmp 24, Operand.tmp 25], argTypes := #[46, 24] }, type := 52, pos := "law.go:63", after := #[{ on := 1, ground := Ground.data }, { on := 2, ground := Ground.data }, { on := 1, ground := Ground.chain }], guard := none } : Oper)) rfl (fun K hK => ?_) AllReadyH.nil
          go_simp
          (with_reducible refine (HRU.out A2 c2 _ (Kd.C_alloc HC5.out.2 _) HC5.out.1).mono ?_)
          rintro e w6 ⟨rfl, hb6⟩
          have HB6 := Lib.hid (HTR.out _ _ HB7.out hb6)
          have HX6 := Lib.hid hb6
          clear hb6
          go_wp2_with fail
          refine hK.out _ _ (HSS.out _ HB6.out) (fun hHeld => ?_)
          clear hK K
          try simp only [Act.put, List.setIfInBounds_toArray, List.set_cons_zero, List.set_cons_succ]
          refine wpAnyH_take (i := 4) (oi := ({ dst := some 22, op := Op.move (Operand.tmp 26), type := 52, pos := "law.go:63", after := #[{ on := 3, ground := Ground.data }], guard := none } : Oper)) (v := .tuple #[.agg TC.toArray, .int .i64 E]) rfl (by kernel_rfl) (by kernel_rfl) (by kernel_rfl) (fun _ _ _ h => h) (Or.inl ⟨by rfl, fun w hSw => by go_simp⟩) hHeld ?_
          simp only [Act.put, List.setIfInBounds_toArray, List.set_cons_zero, List.set_cons_succ]
          refine wpAnyH_take (i := 5) (oi := ({ dst := some 27, op := Op.extract (Operand.tmp 22) 0, type := 24, pos := "law.go:63", after := #[{ on := 4, ground := Ground.data }], guard := none } : Oper)) (v := .agg TC.toArray) rfl (by kernel_rfl) (by kernel_rfl) (by kernel_rfl) (fun _ _ _ h => h) (Or.inl ⟨by rfl, fun w hSw => by go_simp⟩) hHeld ?_
          simp only [Act.put, List.setIfInBounds_toArray, List.set_cons_zero, List.set_cons_succ]
          refine wpAnyH_take (i := 6) (oi := ({ dst := some 28, op := Op.extract (Operand.tmp 22) 1, type := 3, pos := "law.go:63", after := #[{ on := 4, ground := Ground.data }, { on := 8, ground := Ground.gcOnly Departure.lateStores }], guard := none } : Oper)) (v := .int .i64 E) rfl (by kernel_rfl) (by kernel_rfl) (by kernel_rfl) (fun _ _ _ h => h) (Or.inl ⟨by rfl, fun w hSw => by go_simp⟩) hHeld ?_
          simp only [Act.put, List.setIfInBounds_toArray, List.set_cons_zero, List.set_cons_succ]
          have HB8 := Lib.hid (below_setRow HB6.out (HB5.out.size) TC.toArray)
          have HK8 := Lib.hid ((HX6.out.block _ (blk_lt HK7.out)).trans HK7.out)
          refine wpAnyH_ready (rs := [8]) (by kernel_rfl) (by simp) ?_
          refine AllReadyH.cons (o := ({ dst := none, op := Op.store 24 (Operand.tmp 9) (Operand.tmp 27), type := 0, pos := "law.go:63", after := #[{ on := 7, ground := Ground.data }, { on := 5, ground := Ground.data }, { on := 3, ground := Ground.chain }, { on := 0, ground := Ground.phase }, { on := 1, ground := Ground.phase }, { on := 2, ground := Ground.phase }, { on := 3, ground := Ground.phase }, { on := 4, ground := Ground.phase }, { on := 5, ground := Ground.phase }, { on := 6, ground := Ground.textOnly Departure.lateStores }, { on := 7, ground := Ground.phase }], guard := none } : Oper)) rfl (fun K hK => ?_) AllReadyH.nil
          rw [if_pos (by rfl)]
          refine wp_store_row 24 (.tmp 9) (.tmp 27) rfl w5.heap.size TC.toArray (by rfl) (by rfl) 24 Z.toArray HK8.out HIT.out.2.2.2.1 HIT.out.2.1 HIT.out.2.2.1 ?_
          refine hK.out _ _ (HSS.out _ HB8.out) (fun hHeld => ?_)
          clear hK K
          try simp only [Act.put, List.setIfInBounds_toArray, List.set_cons_zero, List.set_cons_succ]
          refine wpAnyH_take (i := 9) (oi := ({ dst := some 10, op := Op.assign (Operand.tmp 28), type := 3, pos := "law.go:63", after := #[{ on := 6, ground := Ground.data }, { on := 8, ground := Ground.chain }, { on := 0, ground := Ground.phase }, { on := 1, ground := Ground.phase }, { on := 2, ground := Ground.phase }, { on := 3, ground := Ground.phase }, { on := 4, ground := Ground.phase }, { on := 5, ground := Ground.phase }, { on := 6, ground := Ground.phase }, { on := 7, ground := Ground.phase }, { on := 8, ground := Ground.phase }], guard := none } : Oper)) (v := .int .i64 E) rfl (by kernel_rfl) (by kernel_rfl) (by kernel_rfl) (fun _ _ _ h => h) (Or.inl ⟨by rfl, fun w hSw => by go_simp⟩) hHeld ?_
          simp only [Act.put, List.setIfInBounds_toArray, List.set_cons_zero, List.set_cons_succ]
          refine wpAnyH_done (by kernel_rfl) ?_ _
          clear hHeld
          go_wp2_with fail
          go_meet
          exact ⟨_, rfl, rfl, Lib.hid ⟨setRow_heap _ _ _ _ _ _ HK8.out, HB8.out⟩⟩
      · skip
        have HB7 := Lib.hid (below_drew (below_alloc (Below.refl W2.heap.size W2) (.cells Z.toArray 24)))
        have HK7 := Lib.hid (heap_alloc_new W2 (.cells Z.toArray 24))
        go_simp
        refine hK.out _ _ (HSS.out _ HB7.out) (fun hHeld => ?_)
        clear hK K
        try simp only [Act.put, List.setIfInBounds_toArray, List.set_cons_zero, List.set_cons_succ]
        refine wpAnyH_ready (rs := [1]) (by kernel_rfl) (by simp) ?_
        refine AllReadyH.cons (o := ({ dst := some 24, op := Op.call { callee := Callee.value (Operand.func 36), args := #[Operand.tmp 23], argTypes := #[41] }, type := 46, pos := "law.go:63", after := #[{ on := 0, ground := Ground.data }], guard := none } : Oper)) rfl (fun K hK => ?_) AllReadyH.nil
        go_simp
        (with_reducible refine (HRF.out _ (HTO.out _ HB7.out)).mono ?_)
        rintro e w5 ⟨A2, c2, rfl, hc2, hC2, hb5⟩
        have HB5 := Lib.hid (HTR.out _ _ HB7.out hb5)
        have HC5 := Lib.hid (And.intro hc2 hC2)
        have HX5 := Lib.hid hb5
        clear hc2 hC2 hb5
        go_wp2_with fail
        refine hK.out _ _ (HSS.out _ HB5.out) (fun hHeld => ?_)
        clear hK K
        try simp only [Act.put, List.setIfInBounds_toArray, List.set_cons_zero, List.set_cons_succ]
        refine wpAnyH_ready (rs := [3]) (by kernel_rfl) (by simp) ?_
        refine AllReadyH.cons (o := ({ dst := some 26, op := Op.call { callee := Callee.value (Operand.func 35), args := #[Operand.tmp 24, Operand.tmp 25], argTypes := #[46, 24] }, type := 52, pos := "law.go:63", after := #[{ on := 1, ground := Ground.data }, { on := 2, ground := Ground.data }, { on := 1, ground := Ground.chain }], guard := none } : Oper)) rfl (fun K hK => ?_) AllReadyH.nil
        go_simp
        (with_reducible refine (HRU.out A2 c2 _ (HC5.out.2) HC5.out.1).mono ?_)
        rintro e w6 ⟨rfl, hb6⟩
        have HB6 := Lib.hid (HTR.out _ _ HB5.out hb6)
        have HX6 := Lib.hid hb6
        clear hb6
        go_wp2_with fail
        refine hK.out _ _ (HSS.out _ HB6.out) (fun hHeld => ?_)
        clear hK K
        try simp only [Act.put, List.setIfInBounds_toArray, List.set_cons_zero, List.set_cons_succ]
        refine wpAnyH_take (i := 4) (oi := ({ dst := some 22, op := Op.move (Operand.tmp 26), type := 52, pos := "law.go:63", after := #[{ on := 3, ground := Ground.data }], guard := none } : Oper)) (v := .tuple #[.agg TC.toArray, .int .i64 E]) rfl (by kernel_rfl) (by kernel_rfl) (by kernel_rfl) (fun _ _ _ h => h) (Or.inl ⟨by rfl, fun w hSw => by go_simp⟩) hHeld ?_
        simp only [Act.put, List.setIfInBounds_toArray, List.set_cons_zero, List.set_cons_succ]
        refine wpAnyH_take (i := 5) (oi := ({ dst := some 27, op := Op.extract (Operand.tmp 22) 0, type := 24, pos := "law.go:63", after := #[{ on := 4, ground := Ground.data }], guard := none } : Oper)) (v := .agg TC.toArray) rfl (by kernel_rfl) (by kernel_rfl) (by kernel_rfl) (fun _ _ _ h => h) (Or.inl ⟨by rfl, fun w hSw => by go_simp⟩) hHeld ?_
        simp only [Act.put, List.setIfInBounds_toArray, List.set_cons_zero, List.set_cons_succ]
        refine wpAnyH_take (i := 6) (oi := ({ dst := some 28, op := Op.extract (Operand.tmp 22) 1, type := 3, pos := "law.go:63", after := #[{ on := 4, ground := Ground.data }, { on := 8, ground := Ground.gcOnly Departure.lateStores }], guard := none } : Oper)) (v := .int .i64 E) rfl (by kernel_rfl) (by kernel_rfl) (by kernel_rfl) (fun _ _ _ h => h) (Or.inl ⟨by rfl, fun w hSw => by go_simp⟩) hHeld ?_
        simp only [Act.put, List.setIfInBounds_toArray, List.set_cons_zero, List.set_cons_succ]
        have HB8 := Lib.hid (below_setRow HB6.out (Nat.le_refl _) TC.toArray)
        have HK8 := Lib.hid ((HX6.out.block _ (blk_lt ((HX5.out.block _ (blk_lt HK7.out)).trans HK7.out))).trans ((HX5.out.block _ (blk_lt HK7.out)).trans HK7.out))
        refine wpAnyH_ready (rs := [8]) (by kernel_rfl) (by simp) ?_
        refine AllReadyH.cons (o := ({ dst := none, op := Op.store 24 (Operand.tmp 9) (Operand.tmp 27), type := 0, pos := "law.go:63", after := #[{ on := 7, ground := Ground.data }, { on := 5, ground := Ground.data }, { on := 3, ground := Ground.chain }, { on := 0, ground := Ground.phase }, { on := 1, ground := Ground.phase }, { on := 2, ground := Ground.phase }, { on := 3, ground := Ground.phase }, { on := 4, ground := Ground.phase }, { on := 5, ground := Ground.phase }, { on := 6, ground := Ground.textOnly Departure.lateStores }, { on := 7, ground := Ground.phase }], guard := none } : Oper)) rfl (fun K hK => ?_) AllReadyH.nil
        rw [if_pos (by rfl)]
        refine wp_store_row 24 (.tmp 9) (.tmp 27) rfl W2.heap.size TC.toArray (by rfl) (by rfl) 24 Z.toArray HK8.out HIT.out.2.2.2.1 HIT.out.2.1 HIT.out.2.2.1 ?_
        refine hK.out _ _ (HSS.out _ HB8.out) (fun hHeld => ?_)
        clear hK K
        try simp only [Act.put, List.setIfInBounds_toArray, List.set_cons_zero, List.set_cons_succ]
        refine wpAnyH_take (i := 9) (oi := ({ dst := some 10, op := Op.assign (Operand.tmp 28), type := 3, pos := "law.go:63", after := #[{ on := 6, ground := Ground.data }, { on := 8, ground := Ground.chain }, { on := 0, ground := Ground.phase }, { on := 1, ground := Ground.phase }, { on := 2, ground := Ground.phase }, { on := 3, ground := Ground.phase }, { on := 4, ground := Ground.phase }, { on := 5, ground := Ground.phase }, { on := 6, ground := Ground.phase }, { on := 7, ground := Ground.phase }, { on := 8, ground := Ground.phase }], guard := none } : Oper)) (v := .int .i64 E) rfl (by kernel_rfl) (by kernel_rfl) (by kernel_rfl) (fun _ _ _ h => h) (Or.inl ⟨by rfl, fun w hSw => by go_simp⟩) hHeld ?_
        simp only [Act.put, List.setIfInBounds_toArray, List.set_cons_zero, List.set_cons_succ]
        refine wpAnyH_done (by kernel_rfl) ?_ _
        clear hHeld
        go_wp2_with fail
        go_meet
        exact ⟨_, rfl, rfl, Lib.hid ⟨setRow_heap _ _ _ _ _ _ HK8.out, HB8.out⟩⟩
    case rest =>
      obtain ⟨g9, rfl, rfl, HG⟩ := hcut
      generalize wc = W4 at *
      have HS4 := Lib.hid (show ∀ u : World, Below W4.heap.size W4 u → ((loadVar 41 ⟨w.heap.size, 0, none⟩).run Tryd.prog u = .ok (.agg #[.int .i64 cnt, .int .i64 idx, .slice A m c]) u ∧ u.rangeAt (w.heap.size + 1) 0 LC ∧ u.rangeAt (w.heap.size + 1 + 1) 0 RC ∧ u.rangeAt w1.heap.size 0 TC ∧ u.rangeAt g9 0 TC) ∧ Below W2.heap.size W2 u from fun u h => by
        have hB := HG.out.2.trans (Below.mono h HG.out.2.size)
        obtain ⟨a1, a2, a3, a4⟩ := HSS.out u hB
        exact ⟨⟨a1, a2, a3, a4, HROW.out _ _ _ _ ((h.block _ (blk_lt HG.out.1)).trans HG.out.1)⟩, hB⟩)
      have HTR4 := Lib.hid (show ∀ u u' : World, Below W4.heap.size W4 u → Below u.heap.size u u' → Below W4.heap.size W4 u' from fun u u' hu hu' => hu.trans (Below.mono hu' hu.size))
      have hi24 := HIT.out.2.2.2.2
      have qR := fun u => eqR T T HTH.out.1 HTH.out.1 u
      simp only [beq_self_eq_true] at qR
      have hHeld := (HS4.out _ (below_drew (Below.refl W4.heap.size W4))).1
      have HBD := Lib.hid (below_drew (Below.refl W4.heap.size W4))
      go_wp2_with fail
      refine wp_region_held (S := fun u => (loadVar 41 ⟨w.heap.size, 0, none⟩).run Tryd.prog u = .ok (.agg #[.int .i64 cnt, .int .i64 idx, .slice A m c]) u ∧ u.rangeAt (w.heap.size + 1) 0 LC ∧ u.rangeAt (w.heap.size + 1 + 1) 0 RC ∧ u.rangeAt w1.heap.size 0 TC ∧ u.rangeAt g9 0 TC) (by kernel_rfl) ?_
      change wpAnyH _ _ _ _ _ _ _ _ (World.drew _)
      refine wpAnyH_take (i := 0) (oi := ({ dst := some 29, op := Op.move (Operand.tmp 8), type := 42, pos := "law.go:64", after := #[], guard := none } : Oper)) (v := .int .i64 E) rfl (by kernel_rfl) (by kernel_rfl) (by kernel_rfl) (fun _ _ _ h => h) (Or.inl ⟨by rfl, fun w hSw => by go_simp⟩) hHeld ?_
      simp only [Act.put, List.setIfInBounds_toArray, List.set_cons_zero, List.set_cons_succ]
      refine wpAnyH_take (i := 1) (oi := ({ dst := some 30, op := Op.move (Operand.tmp 10), type := 3, pos := "law.go:64", after := #[], guard := none } : Oper)) (v := .int .i64 E) rfl (by kernel_rfl) (by kernel_rfl) (by kernel_rfl) (fun _ _ _ h => h) (Or.inl ⟨by rfl, fun w hSw => by go_simp⟩) hHeld ?_
      simp only [Act.put, List.setIfInBounds_toArray, List.set_cons_zero, List.set_cons_succ]
      refine wpAnyH_take (i := 2) (oi := ({ dst := some 31, op := Op.binOp BinOp.neq 3 (Operand.tmp 29) (Operand.tmp 30) 3, type := 4, pos := "law.go:64", after := #[{ on := 0, ground := Ground.data }, { on := 1, ground := Ground.data }], guard := none } : Oper)) (v := .bool false) rfl (by kernel_rfl) (by kernel_rfl) (by kernel_rfl) (fun _ _ _ h => h) (Or.inl ⟨by rfl, fun w hSw => by go_simp⟩) hHeld ?_
      simp only [Act.put, List.setIfInBounds_toArray, List.set_cons_zero, List.set_cons_succ]
      refine wpAnyH_take (i := 3) (oi := ({ dst := some 32, op := Op.move (Operand.tmp 31), type := 4, pos := "law.go:64", after := #[{ on := 2, ground := Ground.data }], guard := none } : Oper)) (v := .bool false) rfl (by kernel_rfl) (by kernel_rfl) (by kernel_rfl) (fun _ _ _ h => h) (Or.inl ⟨by rfl, fun w hSw => by go_simp⟩) hHeld ?_
      simp only [Act.put, List.setIfInBounds_toArray, List.set_cons_zero, List.set_cons_succ]
      refine wpAnyH_take (i := 4) (oi := ({ dst := some 33, op := Op.load 25 (Operand.tmp 7), type := 25, pos := "law.go:64", after := #[{ on := 3, ground := Ground.guard }], guard := some (3, false) } : Oper)) (v := .agg TC.toArray) rfl (by kernel_rfl) (by kernel_rfl) (by kernel_rfl) (fun _ _ _ h => h) (yieldsIf_load_mid (by rfl) _ _ rfl w1.heap.size 0 rfl TC _ (fun _ h => h.2.2.2.1) hu rfl hiT) hHeld ?_
      simp only [Act.put, List.setIfInBounds_toArray, List.set_cons_zero, List.set_cons_succ]
      refine wpAnyH_take (i := 5) (oi := ({ dst := some 34, op := Op.load 24 (Operand.tmp 9), type := 24, pos := "law.go:64", after := #[{ on := 3, ground := Ground.guard }], guard := some (3, false) } : Oper)) (v := .agg TC.toArray) rfl (by kernel_rfl) (by kernel_rfl) (by kernel_rfl) (fun _ _ _ h => h) (yieldsIf_load_mid (by rfl) _ _ rfl g9 0 rfl TC _ (fun _ h => h.2.2.2.2) hu24 rfl hi24) hHeld ?_
      simp only [Act.put, List.setIfInBounds_toArray, List.set_cons_zero, List.set_cons_succ]
      refine wpAnyH_take (i := 6) (oi := ({ dst := some 35, op := Op.binOp BinOp.neq 25 (Operand.tmp 33) (Operand.tmp 34) 25, type := 4, pos := "law.go:64", after := #[{ on := 4, ground := Ground.data }, { on := 5, ground := Ground.data }, { on := 3, ground := Ground.guard }], guard := some (3, false) } : Oper)) (v := .bool false) rfl (by kernel_rfl) (by kernel_rfl) (by kernel_rfl) (fun _ _ _ h => h) (Or.inl ⟨by rfl, fun w hSw => by go_simp⟩) hHeld ?_
      simp only [Act.put, List.setIfInBounds_toArray, List.set_cons_zero, List.set_cons_succ]
      refine wpAnyH_take (i := 7) (oi := ({ dst := some 36, op := Op.pick (Operand.tmp 32) (Operand.const (Value.bool true)) (Operand.tmp 35), type := 4, pos := "law.go:64", after := #[{ on := 3, ground := Ground.data }, { on := 6, ground := Ground.data }], guard := none } : Oper)) (v := .bool false) rfl (by kernel_rfl) (by kernel_rfl) (by kernel_rfl) (fun _ _ _ h => h) (Or.inl ⟨by rfl, fun w hSw => by go_simp⟩) hHeld ?_
      simp only [Act.put, List.setIfInBounds_toArray, List.set_cons_zero, List.set_cons_succ]
      refine wpAnyH_take (i := 8) (oi := ({ dst := some 37, op := Op.move (Operand.tmp 36), type := 4, pos := "law.go:64", after := #[{ on := 7, ground := Ground.data }, { on := 3, ground := Ground.chain }], guard := none } : Oper)) (v := .bool false) rfl (by kernel_rfl) (by kernel_rfl) (by kernel_rfl) (fun _ _ _ h => h) (Or.inl ⟨by rfl, fun w hSw => by go_simp⟩) hHeld ?_
      simp only [Act.put, List.setIfInBounds_toArray, List.set_cons_zero, List.set_cons_succ]
      refine wpAnyH_take (i := 9) (oi := ({ dst := some 38, op := Op.load 41 (Operand.tmp 3), type := 41, pos := "law.go:64", after := #[{ on := 8, ground := Ground.guard }], guard := some (8, false) } : Oper)) (v := .agg #[.int .i64 cnt, .int .i64 idx, .slice A m c]) rfl (by kernel_rfl) (by kernel_rfl) (by kernel_rfl) (fun _ _ _ h => h) (Or.inl ⟨by rfl, fun w hSw => by obtain ⟨z0, z1⟩ := hSw; go_simp⟩) hHeld ?_
      simp only [Act.put, List.setIfInBounds_toArray, List.set_cons_zero, List.set_cons_succ]
      refine wpAnyH_take (i := 11) (oi := ({ dst := some 40, op := Op.load 41 (Operand.tmp 3), type := 41, pos := "law.go:64", after := #[{ on := 8, ground := Ground.guard }], guard := some (8, false) } : Oper)) (v := .agg #[.int .i64 cnt, .int .i64 idx, .slice A m c]) rfl (by kernel_rfl) (by kernel_rfl) (by kernel_rfl) (fun _ _ _ h => h) (Or.inl ⟨by rfl, fun w hSw => by obtain ⟨z0, z1⟩ := hSw; go_simp⟩) hHeld ?_
      simp only [Act.put, List.setIfInBounds_toArray, List.set_cons_zero, List.set_cons_succ]
      refine wpAnyH_ready (rs := [10]) (by kernel_rfl) (by simp) ?_
      refine AllReadyH.cons (o := ({ dst := some 39, op := Op.call { callee := Callee.value (Operand.func 37), args := #[Operand.tmp 38], argTypes := #[41] }, type := 42, pos := "law.go:64", after := #[{ on := 9, ground := Ground.data }, { on := 8, ground := Ground.chain }, { on := 8, ground := Ground.guard }], guard := some (8, false) } : Oper)) rfl (fun K hK => ?_) AllReadyH.nil
      go_simp
      (with_reducible refine (HRI.out _).mono ?_)
      rintro e w5 ⟨rfl, hb5⟩
      have HB5 := Lib.hid (HTR4.out _ _ HBD.out hb5)
      clear hb5
      go_wp2_with fail
      refine hK.out _ _ ((HS4.out _ HB5.out).1) (fun hHeld => ?_)
      clear hK K
      try simp only [Act.put, List.setIfInBounds_toArray, List.set_cons_zero, List.set_cons_succ]
      refine wpAnyH_ready (rs := [12]) (by kernel_rfl) (by simp) ?_
      refine AllReadyH.cons (o := ({ dst := some 41, op := Op.call { callee := Callee.value (Operand.func 36), args := #[Operand.tmp 40], argTypes := #[41] }, type := 46, pos := "law.go:64", after := #[{ on := 11, ground := Ground.data }, { on := 10, ground := Ground.chain }, { on := 8, ground := Ground.guard }], guard := some (8, false) } : Oper)) rfl (fun K hK => ?_) AllReadyH.nil
      go_simp
      (with_reducible refine (HRF.out _ (HTO.out _ (HS4.out _ HB5.out).2)).mono ?_)
      rintro e w6 ⟨A2, c2, rfl, hc2, hC2, hb6⟩
      have HB6 := Lib.hid (HTR4.out _ _ HB5.out hb6)
      clear hc2 hC2 hb6
      go_wp2_with fail
      refine hK.out _ _ ((HS4.out _ HB6.out).1) (fun hHeld => ?_)
      clear hK K
      try simp only [Act.put, List.setIfInBounds_toArray, List.set_cons_zero, List.set_cons_succ]
      refine wpAnyH_ready (rs := [13]) (by kernel_rfl) (by simp) ?_
      refine AllReadyH.cons (o := ({ dst := some 42, op := Op.call { callee := Callee.value (Operand.func 38), args := #[Operand.tmp 41], argTypes := #[46] }, type := 3, pos := "law.go:64", after := #[{ on := 12, ground := Ground.data }, { on := 12, ground := Ground.chain }, { on := 8, ground := Ground.guard }], guard := some (8, false) } : Oper)) rfl (fun K hK => ?_) AllReadyH.nil
      go_simp
      (with_reducible refine (HRR.out A2 c2 _).mono ?_)
      rintro e w7 ⟨rfl, hb7⟩
      have HB7 := Lib.hid (HTR4.out _ _ HB6.out hb7)
      clear hb7
      go_wp2_with fail
      refine hK.out _ _ ((HS4.out _ HB7.out).1) (fun hHeld => ?_)
      clear hK K
      try simp only [Act.put, List.setIfInBounds_toArray, List.set_cons_zero, List.set_cons_succ]
      refine wpAnyH_take (i := 14) (oi := ({ dst := some 43, op := Op.binOp BinOp.neq 3 (Operand.tmp 39) (Operand.tmp 42) 3, type := 4, pos := "law.go:64", after := #[{ on := 10, ground := Ground.data }, { on := 13, ground := Ground.data }, { on := 8, ground := Ground.guard }], guard := some (8, false) } : Oper)) (v := .bool false) rfl (by kernel_rfl) (by kernel_rfl) (by kernel_rfl) (fun _ _ _ h => h) (Or.inl ⟨by rfl, fun w hSw => by go_simp⟩) hHeld ?_
      simp only [Act.put, List.setIfInBounds_toArray, List.set_cons_zero, List.set_cons_succ]
      refine wpAnyH_take (i := 15) (oi := ({ dst := some 44, op := Op.pick (Operand.tmp 37) (Operand.const (Value.bool true)) (Operand.tmp 43), type := 4, pos := "law.go:64", after := #[{ on := 8, ground := Ground.data }, { on := 14, ground := Ground.data }], guard := none } : Oper)) (v := .bool false) rfl (by kernel_rfl) (by kernel_rfl) (by kernel_rfl) (fun _ _ _ h => h) (Or.inl ⟨by rfl, fun w hSw => by go_simp⟩) hHeld ?_
      simp only [Act.put, List.setIfInBounds_toArray, List.set_cons_zero, List.set_cons_succ]
      refine wpAnyH_done (by kernel_rfl) ?_ _
      clear hHeld qq qR
      have HT7 := Lib.hid (HTO.out _ (HS4.out _ HB7.out).2)
      by_cases he : E = 0
      · subst he
        simp only [if_true] at HCT HCR
        go_wp2_with fail
        have HB8 := Lib.hid (HTR4.out _ _ HB7.out (below_drew (Below.refl w7.heap.size w7)))
        have hHeld := (HS4.out _ HB8.out).1
        obtain ⟨sm, hsm⟩ : ∃ x, (root == T) = x := ⟨_, rfl⟩
        have hsm2 : (T == root) = sm := by
          rw [← hsm, Bool.eq_iff_iff]
          simp only [beq_iff_eq]
          exact ⟨Eq.symm, Eq.symm⟩
        rw [hsm] at q0
        rw [hsm2] at HCR
        simp only [beq_self_eq_true, if_true] at HCT
        clear hsm hsm2
        refine wp_region_held (S := fun u => (loadVar 41 ⟨w.heap.size, 0, none⟩).run Tryd.prog u = .ok (.agg #[.int .i64 cnt, .int .i64 idx, .slice A m c]) u ∧ u.rangeAt (w.heap.size + 1) 0 LC ∧ u.rangeAt (w.heap.size + 1 + 1) 0 RC ∧ u.rangeAt w1.heap.size 0 TC ∧ u.rangeAt g9 0 TC) (by kernel_rfl) ?_
        change wpAnyH _ _ _ _ _ _ _ _ (World.drew _)
        refine wpAnyH_take (i := 0) (oi := ({ dst := some 56, op := Op.load 41 (Operand.tmp 3), type := 41, pos := "law.go:70", after := #[], guard := none } : Oper)) (v := .agg #[.int .i64 cnt, .int .i64 idx, .slice A m c]) rfl (by kernel_rfl) (by kernel_rfl) (by kernel_rfl) (fun _ _ _ h => h) (Or.inl ⟨by rfl, fun w hSw => by obtain ⟨z0, z1⟩ := hSw; go_simp⟩) hHeld ?_
        simp only [Act.put, List.setIfInBounds_toArray, List.set_cons_zero, List.set_cons_succ]
        refine wpAnyH_take (i := 1) (oi := ({ dst := some 57, op := Op.load 25 (Operand.tmp 7), type := 25, pos := "law.go:70", after := #[], guard := none } : Oper)) (v := .agg TC.toArray) rfl (by kernel_rfl) (by kernel_rfl) (by kernel_rfl) (fun _ _ _ h => h) (yieldsIf_load_mid (by rfl) _ _ rfl w1.heap.size 0 rfl TC _ (fun _ h => h.2.2.2.1) hu rfl hiT) hHeld ?_
        simp only [Act.put, List.setIfInBounds_toArray, List.set_cons_zero, List.set_cons_succ]
        refine wpAnyH_take (i := 2) (oi := ({ dst := some 58, op := Op.load 25 (Operand.tmp 4), type := 25, pos := "law.go:70", after := #[], guard := none } : Oper)) (v := .agg LC.toArray) rfl (by kernel_rfl) (by kernel_rfl) (by kernel_rfl) (fun _ _ _ h => h) (yieldsIf_load_mid (by rfl) _ _ rfl (w.heap.size + 1) 0 rfl LC _ (fun _ h => h.2.1) hu rfl hiL) hHeld ?_
        simp only [Act.put, List.setIfInBounds_toArray, List.set_cons_zero, List.set_cons_succ]
        refine wpAnyH_ready (rs := [3]) (by kernel_rfl) (by simp) ?_
        refine AllReadyH.cons (o := ({ dst := some 59, op := Op.call { callee := Callee.value (Operand.func 33), args := #[Operand.tmp 56, Operand.tmp 57, Operand.tmp 58], argTypes := #[41, 25, 25] }, type := 42, pos := "law.go:70", after := #[{ on := 0, ground := Ground.data }, { on := 1, ground := Ground.data }, { on := 2, ground := Ground.data }], guard := none } : Oper)) rfl (fun K hK => ?_) AllReadyH.nil
        go_simp
        (with_reducible refine (HCT.out _ (HTO.out _ (HS4.out _ HB8.out).2)).mono ?_)
        rintro e w8 ⟨rfl, hb8⟩
        have HB9 := Lib.hid (HTR4.out _ _ HB8.out hb8)
        clear hb8
        go_wp2_with fail
        refine hK.out _ _ ((HS4.out _ HB9.out).1) (fun hHeld => ?_)
        clear hK K
        try simp only [Act.put, List.setIfInBounds_toArray, List.set_cons_zero, List.set_cons_succ]
        refine wpAnyH_take (i := 4) (oi := ({ dst := some 60, op := Op.binOp BinOp.eql 42 (Operand.tmp 59) (Operand.const (Value.int IntKind.i64 0)) 42, type := 4, pos := "law.go:70", after := #[{ on := 3, ground := Ground.data }], guard := none } : Oper)) (v := .bool true) rfl (by kernel_rfl) (by kernel_rfl) (by kernel_rfl) (fun _ _ _ h => h) (Or.inl ⟨by rfl, fun w hSw => by go_simp⟩) hHeld ?_
        simp only [Act.put, List.setIfInBounds_toArray, List.set_cons_zero, List.set_cons_succ]
        refine wpAnyH_take (i := 5) (oi := ({ dst := some 61, op := Op.move (Operand.tmp 60), type := 4, pos := "law.go:70", after := #[{ on := 4, ground := Ground.data }, { on := 3, ground := Ground.chain }], guard := none } : Oper)) (v := .bool true) rfl (by kernel_rfl) (by kernel_rfl) (by kernel_rfl) (fun _ _ _ h => h) (Or.inl ⟨by rfl, fun w hSw => by go_simp⟩) hHeld ?_
        simp only [Act.put, List.setIfInBounds_toArray, List.set_cons_zero, List.set_cons_succ]
        refine wpAnyH_take (i := 6) (oi := ({ dst := some 62, op := Op.load 41 (Operand.tmp 3), type := 41, pos := "law.go:70", after := #[{ on := 5, ground := Ground.guard }], guard := some (5, true) } : Oper)) (v := .agg #[.int .i64 cnt, .int .i64 idx, .slice A m c]) rfl (by kernel_rfl) (by kernel_rfl) (by kernel_rfl) (fun _ _ _ h => h) (Or.inl ⟨by rfl, fun w hSw => by obtain ⟨z0, z1⟩ := hSw; go_simp⟩) hHeld ?_
        simp only [Act.put, List.setIfInBounds_toArray, List.set_cons_zero, List.set_cons_succ]
        refine wpAnyH_take (i := 7) (oi := ({ dst := some 63, op := Op.load 25 (Operand.tmp 5), type := 25, pos := "law.go:70", after := #[{ on := 5, ground := Ground.guard }], guard := some (5, true) } : Oper)) (v := .agg RC.toArray) rfl (by kernel_rfl) (by kernel_rfl) (by kernel_rfl) (fun _ _ _ h => h) (yieldsIf_load_mid (by rfl) _ _ rfl (w.heap.size + 1 + 1) 0 rfl RC _ (fun _ h => h.2.2.1) hu rfl hiR) hHeld ?_
        simp only [Act.put, List.setIfInBounds_toArray, List.set_cons_zero, List.set_cons_succ]
        refine wpAnyH_take (i := 8) (oi := ({ dst := some 64, op := Op.load 25 (Operand.tmp 4), type := 25, pos := "law.go:70", after := #[{ on := 5, ground := Ground.guard }], guard := some (5, true) } : Oper)) (v := .agg LC.toArray) rfl (by kernel_rfl) (by kernel_rfl) (by kernel_rfl) (fun _ _ _ h => h) (yieldsIf_load_mid (by rfl) _ _ rfl (w.heap.size + 1) 0 rfl LC _ (fun _ h => h.2.1) hu rfl hiL) hHeld ?_
        simp only [Act.put, List.setIfInBounds_toArray, List.set_cons_zero, List.set_cons_succ]
        cases sm with
        | true =>
          simp only [if_true] at HCR
          refine wpAnyH_take (i := 11) (oi := ({ dst := some 67, op := Op.load 25 (Operand.tmp 5), type := 25, pos := "law.go:70", after := #[{ on := 5, ground := Ground.guard }], guard := some (5, true) } : Oper)) (v := .agg RC.toArray) rfl (by kernel_rfl) (by kernel_rfl) (by kernel_rfl) (fun _ _ _ h => h) (yieldsIf_load_mid (by rfl) _ _ rfl (w.heap.size + 1 + 1) 0 rfl RC _ (fun _ h => h.2.2.1) hu rfl hiR) hHeld ?_
          simp only [Act.put, List.setIfInBounds_toArray, List.set_cons_zero, List.set_cons_succ]
          refine wpAnyH_take (i := 12) (oi := ({ dst := some 68, op := Op.load 25 (Operand.tmp 7), type := 25, pos := "law.go:70", after := #[{ on := 5, ground := Ground.guard }], guard := some (5, true) } : Oper)) (v := .agg TC.toArray) rfl (by kernel_rfl) (by kernel_rfl) (by kernel_rfl) (fun _ _ _ h => h) (yieldsIf_load_mid (by rfl) _ _ rfl w1.heap.size 0 rfl TC _ (fun _ h => h.2.2.2.1) hu rfl hiT) hHeld ?_
          simp only [Act.put, List.setIfInBounds_toArray, List.set_cons_zero, List.set_cons_succ]
          refine wpAnyH_take (i := 13) (oi := ({ dst := some 69, op := Op.binOp BinOp.eql 25 (Operand.tmp 67) (Operand.tmp 68) 25, type := 4, pos := "law.go:70", after := #[{ on := 11, ground := Ground.data }, { on := 12, ground := Ground.data }, { on := 5, ground := Ground.guard }], guard := some (5, true) } : Oper)) (v := .bool true) rfl (by kernel_rfl) (by kernel_rfl) (by kernel_rfl) (fun _ _ _ h => h) (Or.inl ⟨by rfl, fun w hSw => by go_simp⟩) hHeld ?_
          simp only [Act.put, List.setIfInBounds_toArray, List.set_cons_zero, List.set_cons_succ]
          refine wpAnyH_ready (rs := [9]) (by kernel_rfl) (by simp) ?_
          refine AllReadyH.cons (o := ({ dst := some 65, op := Op.call { callee := Callee.value (Operand.func 33), args := #[Operand.tmp 62, Operand.tmp 63, Operand.tmp 64], argTypes := #[41, 25, 25] }, type := 42, pos := "law.go:70", after := #[{ on := 6, ground := Ground.data }, { on := 7, ground := Ground.data }, { on := 8, ground := Ground.data }, { on := 5, ground := Ground.chain }, { on := 5, ground := Ground.guard }], guard := some (5, true) } : Oper)) rfl (fun K hK => ?_) AllReadyH.nil
          go_simp
          (with_reducible refine (HCR.out _ (HTO.out _ (HS4.out _ HB9.out).2)).mono ?_)
          rintro e w9 ⟨rfl, hb9⟩
          have HB10 := Lib.hid (HTR4.out _ _ HB9.out hb9)
          clear hb9
          go_wp2_with fail
          refine hK.out _ _ ((HS4.out _ HB10.out).1) (fun hHeld => ?_)
          clear hK K
          try simp only [Act.put, List.setIfInBounds_toArray, List.set_cons_zero, List.set_cons_succ]
          refine wpAnyH_take (i := 10) (oi := ({ dst := some 66, op := Op.binOp BinOp.eql 42 (Operand.tmp 65) (Operand.const (Value.int IntKind.i64 0)) 42, type := 4, pos := "law.go:70", after := #[{ on := 9, ground := Ground.data }, { on := 5, ground := Ground.guard }], guard := some (5, true) } : Oper)) (v := .bool true) rfl (by kernel_rfl) (by kernel_rfl) (by kernel_rfl) (fun _ _ _ h => h) (Or.inl ⟨by rfl, fun w hSw => by go_simp⟩) hHeld ?_
          simp only [Act.put, List.setIfInBounds_toArray, List.set_cons_zero, List.set_cons_succ]
          refine wpAnyH_take (i := 14) (oi := ({ dst := some 70, op := Op.binOp BinOp.eql 4 (Operand.tmp 66) (Operand.tmp 69) 4, type := 4, pos := "law.go:70", after := #[{ on := 10, ground := Ground.data }, { on := 13, ground := Ground.data }, { on := 5, ground := Ground.guard }], guard := some (5, true) } : Oper)) (v := .bool true) rfl (by kernel_rfl) (by kernel_rfl) (by kernel_rfl) (fun _ _ _ h => h) (Or.inl ⟨by rfl, fun w hSw => by go_simp⟩) hHeld ?_
          simp only [Act.put, List.setIfInBounds_toArray, List.set_cons_zero, List.set_cons_succ]
          refine wpAnyH_take (i := 15) (oi := ({ dst := some 71, op := Op.pick (Operand.tmp 61) (Operand.tmp 70) (Operand.const (Value.bool false)), type := 4, pos := "law.go:70", after := #[{ on := 5, ground := Ground.data }, { on := 14, ground := Ground.data }], guard := none } : Oper)) (v := .bool true) rfl (by kernel_rfl) (by kernel_rfl) (by kernel_rfl) (fun _ _ _ h => h) (Or.inl ⟨by rfl, fun w hSw => by go_simp⟩) hHeld ?_
          simp only [Act.put, List.setIfInBounds_toArray, List.set_cons_zero, List.set_cons_succ]
          refine wpAnyH_take (i := 16) (oi := ({ dst := some 72, op := Op.move (Operand.tmp 71), type := 4, pos := "law.go:70", after := #[{ on := 15, ground := Ground.data }, { on := 9, ground := Ground.chain }], guard := none } : Oper)) (v := .bool true) rfl (by kernel_rfl) (by kernel_rfl) (by kernel_rfl) (fun _ _ _ h => h) (Or.inl ⟨by rfl, fun w hSw => by go_simp⟩) hHeld ?_
          simp only [Act.put, List.setIfInBounds_toArray, List.set_cons_zero, List.set_cons_succ]
          refine wpAnyH_take (i := 17) (oi := ({ dst := some 73, op := Op.load 25 (Operand.tmp 5), type := 25, pos := "law.go:70", after := #[{ on := 16, ground := Ground.guard }], guard := some (16, true) } : Oper)) (v := .agg RC.toArray) rfl (by kernel_rfl) (by kernel_rfl) (by kernel_rfl) (fun _ _ _ h => h) (yieldsIf_load_mid (by rfl) _ _ rfl (w.heap.size + 1 + 1) 0 rfl RC _ (fun _ h => h.2.2.1) hu rfl hiR) hHeld ?_
          simp only [Act.put, List.setIfInBounds_toArray, List.set_cons_zero, List.set_cons_succ]
          refine wpAnyH_take (i := 18) (oi := ({ dst := some 74, op := Op.load 25 (Operand.tmp 7), type := 25, pos := "law.go:70", after := #[{ on := 16, ground := Ground.guard }], guard := some (16, true) } : Oper)) (v := .agg TC.toArray) rfl (by kernel_rfl) (by kernel_rfl) (by kernel_rfl) (fun _ _ _ h => h) (yieldsIf_load_mid (by rfl) _ _ rfl w1.heap.size 0 rfl TC _ (fun _ h => h.2.2.2.1) hu rfl hiT) hHeld ?_
          simp only [Act.put, List.setIfInBounds_toArray, List.set_cons_zero, List.set_cons_succ]
          refine wpAnyH_take (i := 19) (oi := ({ dst := some 75, op := Op.binOp BinOp.eql 25 (Operand.tmp 73) (Operand.tmp 74) 25, type := 4, pos := "law.go:70", after := #[{ on := 17, ground := Ground.data }, { on := 18, ground := Ground.data }, { on := 16, ground := Ground.guard }], guard := some (16, true) } : Oper)) (v := .bool true) rfl (by kernel_rfl) (by kernel_rfl) (by kernel_rfl) (fun _ _ _ h => h) (Or.inl ⟨by rfl, fun w hSw => by go_simp⟩) hHeld ?_
          simp only [Act.put, List.setIfInBounds_toArray, List.set_cons_zero, List.set_cons_succ]
          refine wpAnyH_take (i := 20) (oi := ({ dst := some 76, op := Op.move (Operand.tmp 75), type := 4, pos := "law.go:70", after := #[{ on := 19, ground := Ground.data }, { on := 16, ground := Ground.chain }, { on := 16, ground := Ground.guard }], guard := some (16, true) } : Oper)) (v := .bool true) rfl (by kernel_rfl) (by kernel_rfl) (by kernel_rfl) (fun _ _ _ h => h) (Or.inl ⟨by rfl, fun w hSw => by go_simp⟩) hHeld ?_
          simp only [Act.put, List.setIfInBounds_toArray, List.set_cons_zero, List.set_cons_succ]
          refine wpAnyH_take (i := 21) (oi := ({ dst := some 77, op := Op.load 41 (Operand.tmp 3), type := 41, pos := "law.go:70", after := #[{ on := 20, ground := Ground.guard }], guard := some (20, false) } : Oper)) (v := undef) rfl (by kernel_rfl) (by kernel_rfl) (by kernel_rfl) (fun _ _ _ h => h) (Or.inr ⟨by rfl, rfl⟩) hHeld ?_
          simp only [Act.put, List.setIfInBounds_toArray, List.set_cons_zero, List.set_cons_succ]
          refine wpAnyH_take (i := 22) (oi := ({ dst := some 78, op := Op.load 25 (Operand.tmp 5), type := 25, pos := "law.go:70", after := #[{ on := 20, ground := Ground.guard }], guard := some (20, false) } : Oper)) (v := undef) rfl (by kernel_rfl) (by kernel_rfl) (by kernel_rfl) (fun _ _ _ h => h) (Or.inr ⟨by rfl, rfl⟩) hHeld ?_
          simp only [Act.put, List.setIfInBounds_toArray, List.set_cons_zero, List.set_cons_succ]
          refine wpAnyH_take (i := 23) (oi := ({ dst := some 79, op := Op.load 25 (Operand.tmp 4), type := 25, pos := "law.go:70", after := #[{ on := 20, ground := Ground.guard }], guard := some (20, false) } : Oper)) (v := undef) rfl (by kernel_rfl) (by kernel_rfl) (by kernel_rfl) (fun _ _ _ h => h) (Or.inr ⟨by rfl, rfl⟩) hHeld ?_
          simp only [Act.put, List.setIfInBounds_toArray, List.set_cons_zero, List.set_cons_succ]
          refine wpAnyH_take (i := 24) (oi := ({ dst := some 80, op := Op.call { callee := Callee.value (Operand.func 33), args := #[Operand.tmp 77, Operand.tmp 78, Operand.tmp 79], argTypes := #[41, 25, 25] }, type := 42, pos := "law.go:70", after := #[{ on := 21, ground := Ground.data }, { on := 22, ground := Ground.data }, { on := 23, ground := Ground.data }, { on := 20, ground := Ground.chain }, { on := 20, ground := Ground.guard }], guard := some (20, false) } : Oper)) (v := undef) rfl (by kernel_rfl) (by kernel_rfl) (by kernel_rfl) (fun _ _ _ h => h) (Or.inr ⟨by rfl, rfl⟩) hHeld ?_
          simp only [Act.put, List.setIfInBounds_toArray, List.set_cons_zero, List.set_cons_succ]
          refine wpAnyH_take (i := 25) (oi := ({ dst := some 81, op := Op.binOp BinOp.eql 42 (Operand.tmp 80) (Operand.const (Value.int IntKind.i64 15)) 42, type := 4, pos := "law.go:70", after := #[{ on := 24, ground := Ground.data }, { on := 20, ground := Ground.guard }], guard := some (20, false) } : Oper)) (v := undef) rfl (by kernel_rfl) (by kernel_rfl) (by kernel_rfl) (fun _ _ _ h => h) (Or.inr ⟨by rfl, rfl⟩) hHeld ?_
          simp only [Act.put, List.setIfInBounds_toArray, List.set_cons_zero, List.set_cons_succ]
          refine wpAnyH_take (i := 26) (oi := ({ dst := some 82, op := Op.pick (Operand.tmp 76) (Operand.const (Value.bool true)) (Operand.tmp 81), type := 4, pos := "law.go:70", after := #[{ on := 20, ground := Ground.data }, { on := 25, ground := Ground.data }, { on := 16, ground := Ground.guard }], guard := some (16, true) } : Oper)) (v := .bool true) rfl (by kernel_rfl) (by kernel_rfl) (by kernel_rfl) (fun _ _ _ h => h) (Or.inl ⟨by rfl, fun w hSw => by go_simp⟩) hHeld ?_
          simp only [Act.put, List.setIfInBounds_toArray, List.set_cons_zero, List.set_cons_succ]
          refine wpAnyH_take (i := 27) (oi := ({ dst := some 83, op := Op.pick (Operand.tmp 72) (Operand.tmp 82) (Operand.const (Value.bool false)), type := 4, pos := "law.go:70", after := #[{ on := 16, ground := Ground.data }, { on := 26, ground := Ground.data }], guard := none } : Oper)) (v := .bool true) rfl (by kernel_rfl) (by kernel_rfl) (by kernel_rfl) (fun _ _ _ h => h) (Or.inl ⟨by rfl, fun w hSw => by go_simp⟩) hHeld ?_
          simp only [Act.put, List.setIfInBounds_toArray, List.set_cons_zero, List.set_cons_succ]
          refine wpAnyH_take (i := 28) (oi := ({ dst := some 84, op := Op.move (Operand.tmp 83), type := 4, pos := "law.go:70", after := #[{ on := 27, ground := Ground.data }, { on := 24, ground := Ground.chain }], guard := none } : Oper)) (v := .bool true) rfl (by kernel_rfl) (by kernel_rfl) (by kernel_rfl) (fun _ _ _ h => h) (Or.inl ⟨by rfl, fun w hSw => by go_simp⟩) hHeld ?_
          simp only [Act.put, List.setIfInBounds_toArray, List.set_cons_zero, List.set_cons_succ]
          refine wpAnyH_ready (rs := [29]) (by kernel_rfl) (by simp) ?_
          refine AllReadyH.cons (o := ({ dst := some 85, op := Op.call { callee := Callee.value (Operand.func 29), args := #[], argTypes := #[] }, type := 4, pos := "law.go:70", after := #[{ on := 28, ground := Ground.chain }, { on := 28, ground := Ground.guard }], guard := some (28, true) } : Oper)) rfl (fun K hK => ?_) AllReadyH.nil
          go_simp
          (with_reducible refine (HAW.out _ (HTO.out _ (HS4.out _ HB10.out).2)).mono ?_)
          rintro e wa ⟨rfl, hba⟩
          have HBA := Lib.hid (HTR4.out _ _ HB10.out hba)
          clear hba
          go_wp2_with fail
          refine hK.out _ _ ((HS4.out _ HBA.out).1) (fun hHeld => ?_)
          clear hK K
          try simp only [Act.put, List.setIfInBounds_toArray, List.set_cons_zero, List.set_cons_succ]
          refine wpAnyH_take (i := 30) (oi := ({ dst := some 86, op := Op.pick (Operand.tmp 84) (Operand.tmp 85) (Operand.const (Value.bool false)), type := 4, pos := "law.go:70", after := #[{ on := 28, ground := Ground.data }, { on := 29, ground := Ground.data }], guard := none } : Oper)) (v := .bool true) rfl (by kernel_rfl) (by kernel_rfl) (by kernel_rfl) (fun _ _ _ h => h) (Or.inl ⟨by rfl, fun w hSw => by go_simp⟩) hHeld ?_
          simp only [Act.put, List.setIfInBounds_toArray, List.set_cons_zero, List.set_cons_succ]
          refine wpAnyH_take (i := 31) (oi := ({ dst := some 6, op := Op.assign (Operand.tmp 86), type := 4, pos := "law.go:70", after := #[{ on := 30, ground := Ground.data }, { on := 29, ground := Ground.chain }, { on := 0, ground := Ground.phase }, { on := 1, ground := Ground.phase }, { on := 2, ground := Ground.phase }, { on := 3, ground := Ground.phase }, { on := 4, ground := Ground.phase }, { on := 5, ground := Ground.phase }, { on := 6, ground := Ground.phase }, { on := 7, ground := Ground.phase }, { on := 8, ground := Ground.phase }, { on := 9, ground := Ground.phase }, { on := 10, ground := Ground.phase }, { on := 11, ground := Ground.phase }, { on := 12, ground := Ground.phase }, { on := 13, ground := Ground.phase }, { on := 14, ground := Ground.phase }, { on := 15, ground := Ground.phase }, { on := 16, ground := Ground.phase }, { on := 17, ground := Ground.phase }, { on := 18, ground := Ground.phase }, { on := 19, ground := Ground.phase }, { on := 20, ground := Ground.phase }, { on := 21, ground := Ground.phase }, { on := 22, ground := Ground.phase }, { on := 23, ground := Ground.phase }, { on := 24, ground := Ground.phase }, { on := 25, ground := Ground.phase }, { on := 26, ground := Ground.phase }, { on := 27, ground := Ground.phase }, { on := 28, ground := Ground.phase }, { on := 29, ground := Ground.phase }, { on := 30, ground := Ground.phase }], guard := none } : Oper)) (v := .bool true) rfl (by kernel_rfl) (by kernel_rfl) (by kernel_rfl) (fun _ _ _ h => h) (Or.inl ⟨by rfl, fun w hSw => by go_simp⟩) hHeld ?_
          simp only [Act.put, List.setIfInBounds_toArray, List.set_cons_zero, List.set_cons_succ]
          refine wpAnyH_done (by kernel_rfl) ?_ _
          clear hHeld q0
          go_wp2_with fail
          go_ret
          exact ⟨rfl, HTO.out _ (HS4.out _ HBA.out).2⟩
        | false =>
          simp only [Bool.false_eq_true, if_false] at HCR
          refine wpAnyH_take (i := 11) (oi := ({ dst := some 67, op := Op.load 25 (Operand.tmp 5), type := 25, pos := "law.go:70", after := #[{ on := 5, ground := Ground.guard }], guard := some (5, true) } : Oper)) (v := .agg RC.toArray) rfl (by kernel_rfl) (by kernel_rfl) (by kernel_rfl) (fun _ _ _ h => h) (yieldsIf_load_mid (by rfl) _ _ rfl (w.heap.size + 1 + 1) 0 rfl RC _ (fun _ h => h.2.2.1) hu rfl hiR) hHeld ?_
          simp only [Act.put, List.setIfInBounds_toArray, List.set_cons_zero, List.set_cons_succ]
          refine wpAnyH_take (i := 12) (oi := ({ dst := some 68, op := Op.load 25 (Operand.tmp 7), type := 25, pos := "law.go:70", after := #[{ on := 5, ground := Ground.guard }], guard := some (5, true) } : Oper)) (v := .agg TC.toArray) rfl (by kernel_rfl) (by kernel_rfl) (by kernel_rfl) (fun _ _ _ h => h) (yieldsIf_load_mid (by rfl) _ _ rfl w1.heap.size 0 rfl TC _ (fun _ h => h.2.2.2.1) hu rfl hiT) hHeld ?_
          simp only [Act.put, List.setIfInBounds_toArray, List.set_cons_zero, List.set_cons_succ]
          refine wpAnyH_take (i := 13) (oi := ({ dst := some 69, op := Op.binOp BinOp.eql 25 (Operand.tmp 67) (Operand.tmp 68) 25, type := 4, pos := "law.go:70", after := #[{ on := 11, ground := Ground.data }, { on := 12, ground := Ground.data }, { on := 5, ground := Ground.guard }], guard := some (5, true) } : Oper)) (v := .bool false) rfl (by kernel_rfl) (by kernel_rfl) (by kernel_rfl) (fun _ _ _ h => h) (Or.inl ⟨by rfl, fun w hSw => by go_simp⟩) hHeld ?_
          simp only [Act.put, List.setIfInBounds_toArray, List.set_cons_zero, List.set_cons_succ]
          refine wpAnyH_ready (rs := [9]) (by kernel_rfl) (by simp) ?_
          refine AllReadyH.cons (o := ({ dst := some 65, op := Op.call { callee := Callee.value (Operand.func 33), args := #[Operand.tmp 62, Operand.tmp 63, Operand.tmp 64], argTypes := #[41, 25, 25] }, type := 42, pos := "law.go:70", after := #[{ on := 6, ground := Ground.data }, { on := 7, ground := Ground.data }, { on := 8, ground := Ground.data }, { on := 5, ground := Ground.chain }, { on := 5, ground := Ground.guard }], guard := some (5, true) } : Oper)) rfl (fun K hK => ?_) AllReadyH.nil
          go_simp
          (with_reducible refine (HCR.out _ (HTO.out _ (HS4.out _ HB9.out).2)).mono ?_)
          rintro e w9 ⟨rfl, hb9⟩
          have HB10 := Lib.hid (HTR4.out _ _ HB9.out hb9)
          clear hb9
          go_wp2_with fail
          refine hK.out _ _ ((HS4.out _ HB10.out).1) (fun hHeld => ?_)
          clear hK K
          try simp only [Act.put, List.setIfInBounds_toArray, List.set_cons_zero, List.set_cons_succ]
          refine wpAnyH_take (i := 10) (oi := ({ dst := some 66, op := Op.binOp BinOp.eql 42 (Operand.tmp 65) (Operand.const (Value.int IntKind.i64 0)) 42, type := 4, pos := "law.go:70", after := #[{ on := 9, ground := Ground.data }, { on := 5, ground := Ground.guard }], guard := some (5, true) } : Oper)) (v := .bool false) rfl (by kernel_rfl) (by kernel_rfl) (by kernel_rfl) (fun _ _ _ h => h) (Or.inl ⟨by rfl, fun w hSw => by go_simp⟩) hHeld ?_
          simp only [Act.put, List.setIfInBounds_toArray, List.set_cons_zero, List.set_cons_succ]
          refine wpAnyH_take (i := 14) (oi := ({ dst := some 70, op := Op.binOp BinOp.eql 4 (Operand.tmp 66) (Operand.tmp 69) 4, type := 4, pos := "law.go:70", after := #[{ on := 10, ground := Ground.data }, { on := 13, ground := Ground.data }, { on := 5, ground := Ground.guard }], guard := some (5, true) } : Oper)) (v := .bool true) rfl (by kernel_rfl) (by kernel_rfl) (by kernel_rfl) (fun _ _ _ h => h) (Or.inl ⟨by rfl, fun w hSw => by go_simp⟩) hHeld ?_
          simp only [Act.put, List.setIfInBounds_toArray, List.set_cons_zero, List.set_cons_succ]
          refine wpAnyH_take (i := 15) (oi := ({ dst := some 71, op := Op.pick (Operand.tmp 61) (Operand.tmp 70) (Operand.const (Value.bool false)), type := 4, pos := "law.go:70", after := #[{ on := 5, ground := Ground.data }, { on := 14, ground := Ground.data }], guard := none } : Oper)) (v := .bool true) rfl (by kernel_rfl) (by kernel_rfl) (by kernel_rfl) (fun _ _ _ h => h) (Or.inl ⟨by rfl, fun w hSw => by go_simp⟩) hHeld ?_
          simp only [Act.put, List.setIfInBounds_toArray, List.set_cons_zero, List.set_cons_succ]
          refine wpAnyH_take (i := 16) (oi := ({ dst := some 72, op := Op.move (Operand.tmp 71), type := 4, pos := "law.go:70", after := #[{ on := 15, ground := Ground.data }, { on := 9, ground := Ground.chain }], guard := none } : Oper)) (v := .bool true) rfl (by kernel_rfl) (by kernel_rfl) (by kernel_rfl) (fun _ _ _ h => h) (Or.inl ⟨by rfl, fun w hSw => by go_simp⟩) hHeld ?_
          simp only [Act.put, List.setIfInBounds_toArray, List.set_cons_zero, List.set_cons_succ]
          refine wpAnyH_take (i := 17) (oi := ({ dst := some 73, op := Op.load 25 (Operand.tmp 5), type := 25, pos := "law.go:70", after := #[{ on := 16, ground := Ground.guard }], guard := some (16, true) } : Oper)) (v := .agg RC.toArray) rfl (by kernel_rfl) (by kernel_rfl) (by kernel_rfl) (fun _ _ _ h => h) (yieldsIf_load_mid (by rfl) _ _ rfl (w.heap.size + 1 + 1) 0 rfl RC _ (fun _ h => h.2.2.1) hu rfl hiR) hHeld ?_
          simp only [Act.put, List.setIfInBounds_toArray, List.set_cons_zero, List.set_cons_succ]
          refine wpAnyH_take (i := 18) (oi := ({ dst := some 74, op := Op.load 25 (Operand.tmp 7), type := 25, pos := "law.go:70", after := #[{ on := 16, ground := Ground.guard }], guard := some (16, true) } : Oper)) (v := .agg TC.toArray) rfl (by kernel_rfl) (by kernel_rfl) (by kernel_rfl) (fun _ _ _ h => h) (yieldsIf_load_mid (by rfl) _ _ rfl w1.heap.size 0 rfl TC _ (fun _ h => h.2.2.2.1) hu rfl hiT) hHeld ?_
          simp only [Act.put, List.setIfInBounds_toArray, List.set_cons_zero, List.set_cons_succ]
          refine wpAnyH_take (i := 19) (oi := ({ dst := some 75, op := Op.binOp BinOp.eql 25 (Operand.tmp 73) (Operand.tmp 74) 25, type := 4, pos := "law.go:70", after := #[{ on := 17, ground := Ground.data }, { on := 18, ground := Ground.data }, { on := 16, ground := Ground.guard }], guard := some (16, true) } : Oper)) (v := .bool false) rfl (by kernel_rfl) (by kernel_rfl) (by kernel_rfl) (fun _ _ _ h => h) (Or.inl ⟨by rfl, fun w hSw => by go_simp⟩) hHeld ?_
          simp only [Act.put, List.setIfInBounds_toArray, List.set_cons_zero, List.set_cons_succ]
          refine wpAnyH_take (i := 20) (oi := ({ dst := some 76, op := Op.move (Operand.tmp 75), type := 4, pos := "law.go:70", after := #[{ on := 19, ground := Ground.data }, { on := 16, ground := Ground.chain }, { on := 16, ground := Ground.guard }], guard := some (16, true) } : Oper)) (v := .bool false) rfl (by kernel_rfl) (by kernel_rfl) (by kernel_rfl) (fun _ _ _ h => h) (Or.inl ⟨by rfl, fun w hSw => by go_simp⟩) hHeld ?_
          simp only [Act.put, List.setIfInBounds_toArray, List.set_cons_zero, List.set_cons_succ]
          refine wpAnyH_take (i := 21) (oi := ({ dst := some 77, op := Op.load 41 (Operand.tmp 3), type := 41, pos := "law.go:70", after := #[{ on := 20, ground := Ground.guard }], guard := some (20, false) } : Oper)) (v := .agg #[.int .i64 cnt, .int .i64 idx, .slice A m c]) rfl (by kernel_rfl) (by kernel_rfl) (by kernel_rfl) (fun _ _ _ h => h) (Or.inl ⟨by rfl, fun w hSw => by obtain ⟨z0, z1⟩ := hSw; go_simp⟩) hHeld ?_
          simp only [Act.put, List.setIfInBounds_toArray, List.set_cons_zero, List.set_cons_succ]
          refine wpAnyH_take (i := 22) (oi := ({ dst := some 78, op := Op.load 25 (Operand.tmp 5), type := 25, pos := "law.go:70", after := #[{ on := 20, ground := Ground.guard }], guard := some (20, false) } : Oper)) (v := .agg RC.toArray) rfl (by kernel_rfl) (by kernel_rfl) (by kernel_rfl) (fun _ _ _ h => h) (yieldsIf_load_mid (by rfl) _ _ rfl (w.heap.size + 1 + 1) 0 rfl RC _ (fun _ h => h.2.2.1) hu rfl hiR) hHeld ?_
          simp only [Act.put, List.setIfInBounds_toArray, List.set_cons_zero, List.set_cons_succ]
          refine wpAnyH_take (i := 23) (oi := ({ dst := some 79, op := Op.load 25 (Operand.tmp 4), type := 25, pos := "law.go:70", after := #[{ on := 20, ground := Ground.guard }], guard := some (20, false) } : Oper)) (v := .agg LC.toArray) rfl (by kernel_rfl) (by kernel_rfl) (by kernel_rfl) (fun _ _ _ h => h) (yieldsIf_load_mid (by rfl) _ _ rfl (w.heap.size + 1) 0 rfl LC _ (fun _ h => h.2.1) hu rfl hiL) hHeld ?_
          simp only [Act.put, List.setIfInBounds_toArray, List.set_cons_zero, List.set_cons_succ]
          refine wpAnyH_ready (rs := [24]) (by kernel_rfl) (by simp) ?_
          refine AllReadyH.cons (o := ({ dst := some 80, op := Op.call { callee := Callee.value (Operand.func 33), args := #[Operand.tmp 77, Operand.tmp 78, Operand.tmp 79], argTypes := #[41, 25, 25] }, type := 42, pos := "law.go:70", after := #[{ on := 21, ground := Ground.data }, { on := 22, ground := Ground.data }, { on := 23, ground := Ground.data }, { on := 20, ground := Ground.chain }, { on := 20, ground := Ground.guard }], guard := some (20, false) } : Oper)) rfl (fun K hK => ?_) AllReadyH.nil
          go_simp
          (with_reducible refine (HCR.out _ (HTO.out _ (HS4.out _ HB10.out).2)).mono ?_)
          rintro e wb ⟨rfl, hbb⟩
          have HBB := Lib.hid (HTR4.out _ _ HB10.out hbb)
          clear hbb
          go_wp2_with fail
          refine hK.out _ _ ((HS4.out _ HBB.out).1) (fun hHeld => ?_)
          clear hK K
          try simp only [Act.put, List.setIfInBounds_toArray, List.set_cons_zero, List.set_cons_succ]
          refine wpAnyH_take (i := 25) (oi := ({ dst := some 81, op := Op.binOp BinOp.eql 42 (Operand.tmp 80) (Operand.const (Value.int IntKind.i64 15)) 42, type := 4, pos := "law.go:70", after := #[{ on := 24, ground := Ground.data }, { on := 20, ground := Ground.guard }], guard := some (20, false) } : Oper)) (v := .bool true) rfl (by kernel_rfl) (by kernel_rfl) (by kernel_rfl) (fun _ _ _ h => h) (Or.inl ⟨by rfl, fun w hSw => by go_simp⟩) hHeld ?_
          simp only [Act.put, List.setIfInBounds_toArray, List.set_cons_zero, List.set_cons_succ]
          refine wpAnyH_take (i := 26) (oi := ({ dst := some 82, op := Op.pick (Operand.tmp 76) (Operand.const (Value.bool true)) (Operand.tmp 81), type := 4, pos := "law.go:70", after := #[{ on := 20, ground := Ground.data }, { on := 25, ground := Ground.data }, { on := 16, ground := Ground.guard }], guard := some (16, true) } : Oper)) (v := .bool true) rfl (by kernel_rfl) (by kernel_rfl) (by kernel_rfl) (fun _ _ _ h => h) (Or.inl ⟨by rfl, fun w hSw => by go_simp⟩) hHeld ?_
          simp only [Act.put, List.setIfInBounds_toArray, List.set_cons_zero, List.set_cons_succ]
          refine wpAnyH_take (i := 27) (oi := ({ dst := some 83, op := Op.pick (Operand.tmp 72) (Operand.tmp 82) (Operand.const (Value.bool false)), type := 4, pos := "law.go:70", after := #[{ on := 16, ground := Ground.data }, { on := 26, ground := Ground.data }], guard := none } : Oper)) (v := .bool true) rfl (by kernel_rfl) (by kernel_rfl) (by kernel_rfl) (fun _ _ _ h => h) (Or.inl ⟨by rfl, fun w hSw => by go_simp⟩) hHeld ?_
          simp only [Act.put, List.setIfInBounds_toArray, List.set_cons_zero, List.set_cons_succ]
          refine wpAnyH_take (i := 28) (oi := ({ dst := some 84, op := Op.move (Operand.tmp 83), type := 4, pos := "law.go:70", after := #[{ on := 27, ground := Ground.data }, { on := 24, ground := Ground.chain }], guard := none } : Oper)) (v := .bool true) rfl (by kernel_rfl) (by kernel_rfl) (by kernel_rfl) (fun _ _ _ h => h) (Or.inl ⟨by rfl, fun w hSw => by go_simp⟩) hHeld ?_
          simp only [Act.put, List.setIfInBounds_toArray, List.set_cons_zero, List.set_cons_succ]
          refine wpAnyH_ready (rs := [29]) (by kernel_rfl) (by simp) ?_
          refine AllReadyH.cons (o := ({ dst := some 85, op := Op.call { callee := Callee.value (Operand.func 29), args := #[], argTypes := #[] }, type := 4, pos := "law.go:70", after := #[{ on := 28, ground := Ground.chain }, { on := 28, ground := Ground.guard }], guard := some (28, true) } : Oper)) rfl (fun K hK => ?_) AllReadyH.nil
          go_simp
          (with_reducible refine (HAW.out _ (HTO.out _ (HS4.out _ HBB.out).2)).mono ?_)
          rintro e wa ⟨rfl, hba⟩
          have HBA := Lib.hid (HTR4.out _ _ HBB.out hba)
          clear hba
          go_wp2_with fail
          refine hK.out _ _ ((HS4.out _ HBA.out).1) (fun hHeld => ?_)
          clear hK K
          try simp only [Act.put, List.setIfInBounds_toArray, List.set_cons_zero, List.set_cons_succ]
          refine wpAnyH_take (i := 30) (oi := ({ dst := some 86, op := Op.pick (Operand.tmp 84) (Operand.tmp 85) (Operand.const (Value.bool false)), type := 4, pos := "law.go:70", after := #[{ on := 28, ground := Ground.data }, { on := 29, ground := Ground.data }], guard := none } : Oper)) (v := .bool true) rfl (by kernel_rfl) (by kernel_rfl) (by kernel_rfl) (fun _ _ _ h => h) (Or.inl ⟨by rfl, fun w hSw => by go_simp⟩) hHeld ?_
          simp only [Act.put, List.setIfInBounds_toArray, List.set_cons_zero, List.set_cons_succ]
          refine wpAnyH_take (i := 31) (oi := ({ dst := some 6, op := Op.assign (Operand.tmp 86), type := 4, pos := "law.go:70", after := #[{ on := 30, ground := Ground.data }, { on := 29, ground := Ground.chain }, { on := 0, ground := Ground.phase }, { on := 1, ground := Ground.phase }, { on := 2, ground := Ground.phase }, { on := 3, ground := Ground.phase }, { on := 4, ground := Ground.phase }, { on := 5, ground := Ground.phase }, { on := 6, ground := Ground.phase }, { on := 7, ground := Ground.phase }, { on := 8, ground := Ground.phase }, { on := 9, ground := Ground.phase }, { on := 10, ground := Ground.phase }, { on := 11, ground := Ground.phase }, { on := 12, ground := Ground.phase }, { on := 13, ground := Ground.phase }, { on := 14, ground := Ground.phase }, { on := 15, ground := Ground.phase }, { on := 16, ground := Ground.phase }, { on := 17, ground := Ground.phase }, { on := 18, ground := Ground.phase }, { on := 19, ground := Ground.phase }, { on := 20, ground := Ground.phase }, { on := 21, ground := Ground.phase }, { on := 22, ground := Ground.phase }, { on := 23, ground := Ground.phase }, { on := 24, ground := Ground.phase }, { on := 25, ground := Ground.phase }, { on := 26, ground := Ground.phase }, { on := 27, ground := Ground.phase }, { on := 28, ground := Ground.phase }, { on := 29, ground := Ground.phase }, { on := 30, ground := Ground.phase }], guard := none } : Oper)) (v := .bool true) rfl (by kernel_rfl) (by kernel_rfl) (by kernel_rfl) (fun _ _ _ h => h) (Or.inl ⟨by rfl, fun w hSw => by go_simp⟩) hHeld ?_
          simp only [Act.put, List.setIfInBounds_toArray, List.set_cons_zero, List.set_cons_succ]
          refine wpAnyH_done (by kernel_rfl) ?_ _
          clear hHeld q0
          go_wp2_with fail
          go_ret
          exact ⟨rfl, HTO.out _ (HS4.out _ HBA.out).2⟩
      · rw [if_neg he] at HCR
        clear q0
        have HL7 := Lib.hid (HLD.out _ (HS4.out _ HB7.out).2)
        have HIR5 := Lib.hid (show (Tryd.prog.info? 25).map (·.size) = some RC.toArray.size from by rw [List.size_toArray]; exact hiR)
        go_wp2_with (first
          | ((with_reducible show wpList _ _ _ (Oper.mk _ (Op.load _ (.tmp 3)) _ _ _ _ :: _) _ _); (go_loud (refine wpList_load_row rfl 41 (.tmp 3) rfl w.heap.size rfl 41 #[.int .i64 cnt, .int .i64 idx, .slice A m c] (0, 0) _ HL7.out.1 HI9.out.1 rfl HI9.out.2 ?_)))
          | ((with_reducible show wpList _ _ _ (Oper.mk _ (Op.load _ (.tmp 5)) _ _ _ _ :: _) _ _); (go_loud (refine wpList_load_row rfl 25 (.tmp 5) rfl (w.heap.size + 1 + 1) rfl 25 RC.toArray (0, 0) _ HL7.out.2.2 hu rfl HIR5.out ?_)))
          | ((with_reducible show wpList _ _ _ (Oper.mk _ (Op.load _ (.tmp 4)) _ _ _ _ :: _) _ _); (go_loud (refine wpList_load_row rfl 25 (.tmp 4) rfl (w.heap.size + 1) rfl 25 LC.toArray (0, 0) _ HL7.out.2.1 hu rfl HIL5.out ?_))))
        (with_reducible refine (HCR.out _ HT7.out).mono ?_)
        rintro e w8 ⟨rfl, hb8⟩
        have HT8 := Lib.hid (HT7.out.trans (Below.mono hb8 HT7.out.size))
        clear hb8
        go_wp2_with fail
        (with_reducible refine (HAW.out _ HT8.out).mono ?_)
        rintro e w9 ⟨rfl, hb9⟩
        have HT9 := Lib.hid (HT8.out.trans (Below.mono hb9 HT8.out.size))
        clear hb9
        go_wp2_with fail
        go_ret
        exact ⟨rfl, HT9.out⟩
end Go.Proofs.YtlmcdkjobdcflaaDoor.Hand
