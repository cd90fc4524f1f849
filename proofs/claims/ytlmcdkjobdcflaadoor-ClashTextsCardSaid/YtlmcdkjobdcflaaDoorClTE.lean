/- Several texts in one. -/
import Derived.Test.YtlmcdkjobdcflaaDoorProg
import Derived.Below
import Derived.Deep.Draws
import Derived.Deep.AppendLies
import Derived.Maps.AppendAt
import Derived.OwnWalk
import Derived.Laws.BytesArg
import Derived.Laws.MakeOwn
import Derived.Laws.OwnMore
import Derived.Deep.OwnRows
import Derived.Tactics
import Derived.Lib.ConvBytes
import Derived.Laws.Slices
import Derived.WalkKit
import Derived.KernelRfl
import Derived.RowKit3
import Derived.Deep.LoopGhost
import Derived.Deep.QuietTactic
import Derived.BigQuiet
import Derived.WideLaws
import Derived.Deep.DeepCutAuto
import Derived.Deep.CutBlock
import Derived.Deep.RegionHeld3
import Derived.Laws.Rows
import Derived.Lib.AppendStr
import Derived.ArgAppend
import Derived.Laws.IdiomCopy
import Derived.OrdersHeld
import Derived.Laws.BitsLemmas
import Derived.RowKit
import Derived.StillTailTactics
import Derived.Test.YtlmcdkjobdcflaaDoorWWords
import Derived.Test.YtlmcdkjobdcflaaDoorWLast
import Derived.Test.YtlmcdkjobdcflaaDoorWMore
import Derived.Lib.Hide
import Derived.Outline
import Derived.Deep.MidRow
import Derived.Deep.WholeRow
import Derived.Deep.DrawnRows
import Derived.Deep.Cut
import Derived.Carry
import Derived.Test.YtlmcdkjobdcflaaDoorClTD
import Derived.Test.YtlmcdkjobdcflaaDoorClTB
/- The texts of a list and of a claim are the document's: the law ClashTexts, walked. -/
namespace Go.Proofs.YtlmcdkjobdcflaaDoor.Hand
open Go Go.RowKit Go.Proofs.YtlmcdkjobdcflaaDoor.Plain Go.Proofs.YtlmcdkjobdcflaaDoor.PAll Go.Proofs.YtlmcdkjobdcflaaDoorW.PrintWords Go.Proofs.YtlmcdkjobdcflaaDoorW.PrintLast Go.Proofs.YtlmcdkjobdcflaaDoorW.PrintMore
set_option linter.unusedVariables false
set_option linter.unusedSimpArgs false
set_option maxRecDepth 100000
attribute [local go_sem ↓] Go.wp_at_zero Go.wp_at_succ
attribute [-go_sem] loadVar storeVar Instr.buildSlice
set_option maxHeartbeats 8000000 in
theorem texts10law_calls (A : Option Addr) (n c : Nat) (yss : List (List Int)) (A0 : Option Addr) (m0 c0 : Nat) (text : List Int) (cnt idx : Int) (A1 : Option Addr) (m c1 : Nat) (xs : List (List Int)) (w : World) (h : CaseOk w A n c yss A0 m0 c0 text cnt idx A1 m c1 xs) (hK : KT w) :
    Calls Tryd.prog 14 #[.agg (caseC A n c A0 m0 c0 cnt idx A1 m c1)] w fun e w' => e = .returned (.bool true) ∧ Below w.heap.size w w' := by
  have hk := heap_alloc_new w (.cells (caseC A n c A0 m0 c0 cnt idx A1 m c1) 64)
  have hb := below_alloc (Below.refl w.heap.size w) (.cells (caseC A n c A0 m0 c0 cnt idx A1 m c1) 64)
  obtain ⟨W0, hW0⟩ : ∃ W, w.alloc (.cells (caseC A n c A0 m0 c0 cnt idx A1 m c1) 64) = W := ⟨_, rfl⟩
  rw [hW0] at hk hb
  have HK0 := Lib.hid hk
  have HB0 := Lib.hid hb
  have HO := Lib.hid (h.below hb)
  have HKW := Lib.hid hK
  have HW0 := Lib.hid hW0
  have HI5 := Lib.hid (And.intro Tryd.underlying64 infoCase)
  have HI9 := Lib.hid (And.intro Tryd.underlying41 (zero_of_info infoB9).2)
  have HSM := Lib.hid (small10_calls A n c yss A0 m0 c0 cnt idx A1 m c1 W0 HO.out.hn HO.out.hr)
  clear hk hb h hK hW0
  unfold caseC at HSM HK0 HW0 ⊢
  have HLD := Lib.hid (show ∀ u : World, Below W0.heap.size W0 u → (loadVar 62 ⟨w.heap.size, 0, none⟩).run Tryd.prog u = .ok (.slice A n c) u ∧ (loadVar 33 ⟨w.heap.size, 1, none⟩).run Tryd.prog u = .ok (.slice A0 m0 c0) u ∧ (loadVar 41 ⟨w.heap.size, 2, none⟩).run Tryd.prog u = .ok (.agg #[.int .i64 cnt, .int .i64 idx, .slice A1 m c1]) u from fun u hu => by
    have h9 := case_loads ((hu.block _ (blk_lt HK0.out)).trans HK0.out)
    exact ⟨h9.1, h9.2.1, h9.2.2.1⟩)
  have HAW := Lib.hid (show ∀ u : World, Below w.heap.size w u → Calls Tryd.prog 41 #[] u fun e w' => e = .returned (.bool true) ∧ Below w.heap.size w w' from fun u hu => (awake10_calls u (HKW.out.below hu (Nat.le_refl _))).mono fun e w' h => ⟨h.1, hu.trans (Below.mono h.2 hu.size)⟩)
  cases hs : smallP m0 m yss with
  | false =>
    rw [hs] at HSM
    go_enter Tryd.func14, Tryd.ntmps14
    go_wp2_with ((with_reducible show wpList _ _ _ (Oper.mk _ (Op.load _ (.tmp 1)) _ _ _ _ :: _) _ _); rw [HW0.out]; (go_loud (refine wpList_load_row rfl 64 (.tmp 1) rfl w.heap.size rfl 64 #[.slice A n c, .slice A0 m0 c0, .int .i64 cnt, .int .i64 idx, .slice A1 m c1] (0, 0) _ HK0.out HI5.out.1 rfl HI5.out.2 ?_)))
    refine HSM.out.mono ?_
    rintro e w1 ⟨rfl, hb1⟩
    have HB1 := Lib.hid (HB0.out.trans (Below.mono hb1 HB0.out.size))
    clear hb1
    have HAW2 := Lib.hid (HAW.out w1 HB1.out)
    go_wp2_with fail
    refine HAW2.out.mono ?_
    rintro e w9 ⟨rfl, hb9⟩
    have HB9 := Lib.hid hb9
    clear hb9
    go_wp2_with fail
    go_ret
    exact ⟨rfl, HB9.out⟩
  | true =>
    rw [hs] at HSM
    have HS := Lib.hid hs
    have HSS := Lib.hid (small_of hs)
    clear hs
    go_enter Tryd.func14, Tryd.ntmps14
    go_wp2_with ((with_reducible show wpList _ _ _ (Oper.mk _ (Op.load _ (.tmp 1)) _ _ _ _ :: _) _ _); rw [HW0.out]; (go_loud (refine wpList_load_row rfl 64 (.tmp 1) rfl w.heap.size rfl 64 #[.slice A n c, .slice A0 m0 c0, .int .i64 cnt, .int .i64 idx, .slice A1 m c1] (0, 0) _ HK0.out HI5.out.1 rfl HI5.out.2 ?_)))
    refine HSM.out.mono ?_
    rintro e w1 ⟨rfl, hb1⟩
    have HB1 := Lib.hid (HB0.out.trans (Below.mono hb1 HB0.out.size))
    have HX1 := Lib.hid hb1
    have HO1 := Lib.hid (HO.out.below hb1)
    clear hb1
    have HTO := Lib.hid (show ∀ u : World, Below w1.heap.size w1 u → Below w.heap.size w u from fun u hu => HB1.out.trans (Below.mono hu HB1.out.size))
    have HTR := Lib.hid (show ∀ u u' : World, Below w1.heap.size w1 u → Below u.heap.size u u' → Below w1.heap.size w1 u' from fun u u' hu hu' => hu.trans (Below.mono hu' hu.size))
    have HOR := Lib.hid (show ∀ ys ∈ yss, okR ys from fun ys hys => ⟨HO1.out.hy ys hys, by have := HSS.out.2.2.2 ys hys; omega⟩)
    have HOX := Lib.hid (show okR text from ⟨HO1.out.htb, by have h1 := HSS.out.2.1; have h2 := HO1.out.ht.1; omega⟩)
    have HNN := Lib.hid (show n ≤ 9 ∧ n = yss.length from ⟨by rw [HO1.out.hn]; exact HSS.out.1, HO1.out.hn⟩)
    have HL1 := Lib.hid (show ∀ u : World, Below w1.heap.size w1 u → (loadVar 62 ⟨w.heap.size, 0, none⟩).run Tryd.prog u = .ok (.slice A n c) u ∧ (loadVar 33 ⟨w.heap.size, 1, none⟩).run Tryd.prog u = .ok (.slice A0 m0 c0) u ∧ (loadVar 41 ⟨w.heap.size, 2, none⟩).run Tryd.prog u = .ok (.agg #[.int .i64 cnt, .int .i64 idx, .slice A1 m c1]) u ∧ (convert 33 9 (.slice A0 m0 c0)).run Tryd.prog u = .ok (.string (strOfNums text)) u from fun u hu => by
      have h9 := HLD.out u (HX1.out.trans (Below.mono hu HX1.out.size))
      refine ⟨h9.1, h9.2.1, h9.2.2, ?_⟩
      have hT2 := HO1.out.ht.below hu
      have h8 := Kd.C_string (P := Tryd.prog) (c := c0) Tryd.underlying33 Tryd.underlying5 Tryd.underlying9 hT2.2.2
      rw [← hT2.1] at h8
      exact h8)
    have HST := Lib.hid (show ∀ u : World, Below w1.heap.size w1 u → Calls Tryd.prog 45 #[.slice A n c] u fun e w' => ∃ A2 c2, e = .returned (.slice A2 n c2) ∧ Kd.C Kd.string w' A2 n (yss.map strOfNums) ∧ Below u.heap.size u w' from fun u hu => (strs10_calls A n c yss u HO1.out.hn (Kd.C_below HO1.out.hr hu) (by have := HNN.out; omega) (fun ys hys => ⟨(HOR.out ys hys).1, by have := (HOR.out ys hys).2; omega⟩)).mono fun e w' h => by
      obtain ⟨v, rfl, hv, hb⟩ := h
      obtain ⟨A2, c2, rfl⟩ := Kd.R_slice hv
      have hl : (yss.map strOfNums).length = n := by rw [List.length_map, HO1.out.hn]
      have h9 := Kd.R_reads' hv
      rw [hl] at h9 ⊢
      exact ⟨A2, c2, rfl, h9.2.2, hb⟩)
    have HRF := Lib.hid (show ∀ u : World, Below w1.heap.size w1 u → Calls Tryd.prog 36 #[.agg #[.int .i64 cnt, .int .i64 idx, .slice A1 m c1]] u fun e w' => ∃ A2 c2, e = .returned (.agg #[.int .i64 cnt, .int .i64 idx, .slice A2 m c2]) ∧ (m ≤ c2 ∧ Kd.C kH w' A2 m xs) ∧ Below u.heap.size u w' from fun u hu => (lref9_calls cnt idx A1 m c1 xs u HO1.out.hm (Kd.C_below HO1.out.hr1 hu) HO1.out.hc1 (by have := HSS.out.2.2.1; omega) HO1.out.hH).mono fun e w' h => by
      obtain ⟨A2, c2, rfl, h1, h2, h3⟩ := h
      exact ⟨A2, c2, rfl, ⟨h1, h2⟩, h3⟩)
    have HTT := Lib.hid (show ∀ u : World, Below w1.heap.size w1 u → Calls Tryd.prog 43 #[.slice A n c] u fun e w' => ∃ A2 c2, e = .returned (.slice A2 (textsP yss).length c2) ∧ Kd.C kBs w' A2 (textsP yss).length (textsP yss) ∧ Below u.heap.size u w' from fun u hu => ((HO1.out.below hu).texts HS.out (HKW.out.below (HTO.out u hu) (Nat.le_refl _))).mono fun e w' h => by
      obtain ⟨v, rfl, hv, hb⟩ := h
      obtain ⟨A2, c2, rfl⟩ := Kd.R_slice hv
      exact ⟨A2, c2, rfl, (Kd.R_reads' hv).2.2, hb⟩)
    have HCC := Lib.hid (show ∀ u : World, Below w1.heap.size w1 u → Calls Tryd.prog 46 #[.slice A0 m0 c0, .agg #[.int .i64 cnt, .int .i64 idx, .slice A1 m c1]] u fun e w' => ∃ A2 c2, e = .returned (.slice A2 (claimP cnt idx xs text).length c2) ∧ Kd.C kBs w' A2 (claimP cnt idx xs text).length (claimP cnt idx xs text) ∧ Below u.heap.size u w' from fun u hu => ((HO1.out.below hu).claim HS.out (HKW.out.below (HTO.out u hu) (Nat.le_refl _))).mono fun e w' h => by
      obtain ⟨v, rfl, hv, hb⟩ := h
      obtain ⟨A2, c2, rfl⟩ := Kd.R_slice hv
      exact ⟨A2, c2, rfl, (Kd.R_reads' hv).2.2, hb⟩)
    have HRT := Lib.hid (show ∀ (u : World) (A2 : Option Addr) (c2 : Nat), Kd.C Kd.string u A2 n (yss.map strOfNums) → Calls Tryd.prog 44 #[.slice A2 n c2] u fun e w' => ∃ A3 c3, e = .returned (.slice A3 (textsP yss).length c3) ∧ Kd.C Kd.string w' A3 (textsP yss).length ((textsP yss).map strOfNums) ∧ Below u.heap.size u w' from fun u A2 c2 h => (rtexts10_calls A2 n c2 yss u HO1.out.hn h (by have := HNN.out; omega) HOR.out).mono fun e w' h => by
      obtain ⟨v, rfl, hv, hb⟩ := h
      obtain ⟨A3, c3, rfl⟩ := Kd.R_slice hv
      have h9 := Kd.R_reads' hv
      rw [List.length_map] at h9 ⊢
      exact ⟨A3, c3, rfl, h9.2.2, hb⟩)
    have HRC := Lib.hid (show ∀ (u : World) (A2 : Option Addr) (c2 : Nat), m ≤ c2 ∧ Kd.C kH u A2 m xs → Calls Tryd.prog 47 #[.string (strOfNums text), .agg #[.int .i64 cnt, .int .i64 idx, .slice A2 m c2]] u fun e w' => ∃ A3 c3, e = .returned (.slice A3 (claimP cnt idx xs text).length c3) ∧ Kd.C Kd.string w' A3 (claimP cnt idx xs text).length ((claimP cnt idx xs text).map strOfNums) ∧ Below u.heap.size u w' from fun u A2 c2 h => (rclaim10_calls text cnt idx A2 m c2 xs u HOX.out HO1.out.hm h.2 h.1 (by have := HSS.out.2.2.1; omega) HO1.out.hH HO1.out.h0 HO1.out.h1).mono fun e w' h => by
      obtain ⟨v, rfl, hv, hb⟩ := h
      obtain ⟨A3, c3, rfl⟩ := Kd.R_slice hv
      have h9 := Kd.R_reads' hv
      rw [List.length_map] at h9 ⊢
      exact ⟨A3, c3, rfl, h9.2.2, hb⟩)
    have HLT := Lib.hid (show (textsP yss).length ≤ 11000 ∧ (claimP cnt idx xs text).length ≤ 1001 from ⟨textsP_len (by have := HSS.out.1; omega), by have h1 := claimP_len cnt idx xs text; have h2 := HSS.out.2.2.1; have h3 := HO1.out.hm; omega⟩)
    have HSA := Lib.hid (show ∀ (u : World) (tt : List (List Int)) (A2 A3 : Option Addr) (c2 c3 : Nat), Kd.C kBs u A2 tt.length tt → Kd.C Kd.string u A3 tt.length (tt.map strOfNums) → tt.length ≤ 11000 → Calls Tryd.prog 42 #[.slice A2 tt.length c2, .slice A3 tt.length c3] u fun e w' => e = .returned (.bool true) ∧ Below u.heap.size u w' from fun u tt A2 A3 c2 c3 h2 h3 hl => by
      have h9 := same10_calls A2 A3 tt.length tt.length c2 c3 tt (tt.map strOfNums) u rfl (by rw [List.length_map]) h2 h3 (by omega) (by omega)
      rw [decide_eq_true rfl] at h9
      exact h9)
    obtain ⟨tx, htx⟩ : ∃ x, textsP yss = x := ⟨_, rfl⟩
    obtain ⟨cl, hcl⟩ : ∃ x, claimP cnt idx xs text = x := ⟨_, rfl⟩
    obtain ⟨tz, htz⟩ : ∃ x, strOfNums text = x := ⟨_, rfl⟩
    rw [htx] at HTT HRT HLT
    rw [hcl] at HCC HRC HLT
    rw [htz] at HRC HL1
    have HS1 := Lib.hid (HSA.out · tx)
    have HS2 := Lib.hid (HSA.out · cl)
    obtain ⟨lt, hlt⟩ : ∃ x, tx.length = x := ⟨_, rfl⟩
    obtain ⟨lc, hlc⟩ : ∃ x, cl.length = x := ⟨_, rfl⟩
    rw [hlt] at HTT HRT HLT HS1
    rw [hlc] at HCC HRC HLT HS2
    clear htx hcl htz hlt hlc
    go_wp2_with fail
    have HBD := Lib.hid (below_drew (Below.refl w1.heap.size w1))
    have hHeld := HL1.out _ HBD.out
    refine wp_region_held (S := fun u => (loadVar 62 ⟨w.heap.size, 0, none⟩).run Tryd.prog u = .ok (.slice A n c) u ∧ (loadVar 33 ⟨w.heap.size, 1, none⟩).run Tryd.prog u = .ok (.slice A0 m0 c0) u ∧ (loadVar 41 ⟨w.heap.size, 2, none⟩).run Tryd.prog u = .ok (.agg #[.int .i64 cnt, .int .i64 idx, .slice A1 m c1]) u ∧ (convert 33 9 (.slice A0 m0 c0)).run Tryd.prog u = .ok (.string tz) u) (by kernel_rfl) ?_
    change wpAnyH _ _ _ _ _ _ _ _ (World.drew _)
    refine wpAnyH_take (i := 0) (oi := ({ dst := some 7, op := Op.fieldAddr 64 (Operand.tmp 1) 0, type := 0, pos := "law.go:69", after := #[], guard := none } : Oper)) (v := .pointer (some ⟨w.heap.size, 0, none⟩)) rfl (by kernel_rfl) (by kernel_rfl) (by kernel_rfl) (fun _ _ _ h => h) (Or.inl ⟨by rfl, fun w hSw => by go_simp⟩) hHeld ?_
    simp only [Act.put, List.setIfInBounds_toArray, List.set_cons_zero, List.set_cons_succ]
    refine wpAnyH_take (i := 1) (oi := ({ dst := some 8, op := Op.load 62 (Operand.tmp 7), type := 62, pos := "law.go:69", after := #[{ on := 0, ground := Ground.data }], guard := none } : Oper)) (v := .slice A n c) rfl (by kernel_rfl) (by kernel_rfl) (by kernel_rfl) (fun _ _ _ h => h) (Or.inl ⟨by rfl, fun w hSw => by obtain ⟨z0, z1, z2, z3⟩ := hSw; go_simp⟩) hHeld ?_
    simp only [Act.put, List.setIfInBounds_toArray, List.set_cons_zero, List.set_cons_succ]
    refine wpAnyH_take (i := 3) (oi := ({ dst := some 10, op := Op.fieldAddr 64 (Operand.tmp 1) 0, type := 0, pos := "law.go:69", after := #[], guard := none } : Oper)) (v := .pointer (some ⟨w.heap.size, 0, none⟩)) rfl (by kernel_rfl) (by kernel_rfl) (by kernel_rfl) (fun _ _ _ h => h) (Or.inl ⟨by rfl, fun w hSw => by go_simp⟩) hHeld ?_
    simp only [Act.put, List.setIfInBounds_toArray, List.set_cons_zero, List.set_cons_succ]
    refine wpAnyH_take (i := 4) (oi := ({ dst := some 11, op := Op.load 62 (Operand.tmp 10), type := 62, pos := "law.go:69", after := #[{ on := 3, ground := Ground.data }], guard := none } : Oper)) (v := .slice A n c) rfl (by kernel_rfl) (by kernel_rfl) (by kernel_rfl) (fun _ _ _ h => h) (Or.inl ⟨by rfl, fun w hSw => by obtain ⟨z0, z1, z2, z3⟩ := hSw; go_simp⟩) hHeld ?_
    simp only [Act.put, List.setIfInBounds_toArray, List.set_cons_zero, List.set_cons_succ]
    refine wpAnyH_ready (rs := [2]) (by kernel_rfl) (by simp) ?_
    refine AllReadyH.cons (o := ({ dst := some 9, op := Op.call { callee := Callee.value (Operand.func 43), args := #[Operand.tmp 8], argTypes := #[62] }, type := 62, pos := "law.go:69", after := #[{ on := 1, ground := Ground.data }], guard := none } : Oper)) rfl (fun K hK => ?_) AllReadyH.nil
    go_simp
    (with_reducible refine (HTT.out _ HBD.out).mono ?_)
    rintro e w2 ⟨A2, c2, rfl, hC2, hb2⟩
    have HB2 := Lib.hid (HTR.out _ _ HBD.out hb2)
    have HC2 := Lib.hid hC2
    clear hC2 hb2
    go_wp2_with fail
    refine hK.out _ _ (HL1.out _ HB2.out) (fun hHeld => ?_)
    clear hK K
    try simp only [Act.put, List.setIfInBounds_toArray, List.set_cons_zero, List.set_cons_succ]
    refine wpAnyH_ready (rs := [5]) (by kernel_rfl) (by simp) ?_
    refine AllReadyH.cons (o := ({ dst := some 12, op := Op.call { callee := Callee.value (Operand.func 45), args := #[Operand.tmp 11], argTypes := #[62] }, type := 68, pos := "law.go:69", after := #[{ on := 4, ground := Ground.data }, { on := 2, ground := Ground.chain }], guard := none } : Oper)) rfl (fun K hK => ?_) AllReadyH.nil
    go_simp
    (with_reducible refine (HST.out _ HB2.out).mono ?_)
    rintro e w3 ⟨A3, c3, rfl, hC3, hb3⟩
    have HB3 := Lib.hid (HTR.out _ _ HB2.out hb3)
    have HC3 := Lib.hid (And.intro (Kd.C_below HC2.out hb3) hC3)
    clear hC3 hb3
    go_wp2_with fail
    refine hK.out _ _ (HL1.out _ HB3.out) (fun hHeld => ?_)
    clear hK K
    try simp only [Act.put, List.setIfInBounds_toArray, List.set_cons_zero, List.set_cons_succ]
    refine wpAnyH_ready (rs := [6]) (by kernel_rfl) (by simp) ?_
    refine AllReadyH.cons (o := ({ dst := some 13, op := Op.call { callee := Callee.value (Operand.func 44), args := #[Operand.tmp 12], argTypes := #[68] }, type := 68, pos := "law.go:69", after := #[{ on := 5, ground := Ground.data }, { on := 5, ground := Ground.chain }], guard := none } : Oper)) rfl (fun K hK => ?_) AllReadyH.nil
    go_simp
    (with_reducible refine (HRT.out _ A3 c3 HC3.out.2).mono ?_)
    rintro e w4 ⟨A4, c4, rfl, hC4, hb4⟩
    have HB4 := Lib.hid (HTR.out _ _ HB3.out hb4)
    have HC4 := Lib.hid (And.intro (Kd.C_below HC3.out.1 hb4) hC4)
    clear hC4 hb4
    go_wp2_with fail
    refine hK.out _ _ (HL1.out _ HB4.out) (fun hHeld => ?_)
    clear hK K
    try simp only [Act.put, List.setIfInBounds_toArray, List.set_cons_zero, List.set_cons_succ]
    refine wpAnyH_ready (rs := [7]) (by kernel_rfl) (by simp) ?_
    refine AllReadyH.cons (o := ({ dst := some 14, op := Op.call { callee := Callee.value (Operand.func 42), args := #[Operand.tmp 9, Operand.tmp 13], argTypes := #[62, 68] }, type := 4, pos := "law.go:69", after := #[{ on := 2, ground := Ground.data }, { on := 6, ground := Ground.data }, { on := 6, ground := Ground.chain }], guard := none } : Oper)) rfl (fun K hK => ?_) AllReadyH.nil
    go_simp
    (with_reducible refine (HS1.out _ A2 A4 c2 c4 HC4.out.1 HC4.out.2 HLT.out.1).mono ?_)
    rintro e w5 ⟨rfl, hb5⟩
    have HB5 := Lib.hid (HTR.out _ _ HB4.out hb5)
    clear hb5
    go_wp2_with fail
    refine hK.out _ _ (HL1.out _ HB5.out) (fun hHeld => ?_)
    clear hK K
    try simp only [Act.put, List.setIfInBounds_toArray, List.set_cons_zero, List.set_cons_succ]
    refine wpAnyH_take (i := 8) (oi := ({ dst := some 15, op := Op.move (Operand.tmp 14), type := 4, pos := "law.go:69", after := #[{ on := 7, ground := Ground.data }, { on := 7, ground := Ground.chain }], guard := none } : Oper)) (v := .bool true) rfl (by kernel_rfl) (by kernel_rfl) (by kernel_rfl) (fun _ _ _ h => h) (Or.inl ⟨by rfl, fun w hSw => by go_simp⟩) hHeld ?_
    simp only [Act.put, List.setIfInBounds_toArray, List.set_cons_zero, List.set_cons_succ]
    refine wpAnyH_take (i := 9) (oi := ({ dst := some 16, op := Op.fieldAddr 64 (Operand.tmp 1) 1, type := 0, pos := "law.go:69", after := #[{ on := 8, ground := Ground.guard }], guard := some (8, true) } : Oper)) (v := .pointer (some ⟨w.heap.size, 1, none⟩)) rfl (by kernel_rfl) (by kernel_rfl) (by kernel_rfl) (fun _ _ _ h => h) (Or.inl ⟨by rfl, fun w hSw => by go_simp⟩) hHeld ?_
    simp only [Act.put, List.setIfInBounds_toArray, List.set_cons_zero, List.set_cons_succ]
    refine wpAnyH_take (i := 10) (oi := ({ dst := some 17, op := Op.load 33 (Operand.tmp 16), type := 33, pos := "law.go:69", after := #[{ on := 9, ground := Ground.data }, { on := 8, ground := Ground.guard }], guard := some (8, true) } : Oper)) (v := .slice A0 m0 c0) rfl (by kernel_rfl) (by kernel_rfl) (by kernel_rfl) (fun _ _ _ h => h) (Or.inl ⟨by rfl, fun w hSw => by obtain ⟨z0, z1, z2, z3⟩ := hSw; go_simp⟩) hHeld ?_
    simp only [Act.put, List.setIfInBounds_toArray, List.set_cons_zero, List.set_cons_succ]
    refine wpAnyH_take (i := 11) (oi := ({ dst := some 18, op := Op.fieldAddr 64 (Operand.tmp 1) 2, type := 0, pos := "law.go:69", after := #[{ on := 8, ground := Ground.guard }], guard := some (8, true) } : Oper)) (v := .pointer (some ⟨w.heap.size, 2, none⟩)) rfl (by kernel_rfl) (by kernel_rfl) (by kernel_rfl) (fun _ _ _ h => h) (Or.inl ⟨by rfl, fun w hSw => by go_simp⟩) hHeld ?_
    simp only [Act.put, List.setIfInBounds_toArray, List.set_cons_zero, List.set_cons_succ]
    refine wpAnyH_take (i := 12) (oi := ({ dst := some 19, op := Op.load 41 (Operand.tmp 18), type := 41, pos := "law.go:69", after := #[{ on := 11, ground := Ground.data }, { on := 8, ground := Ground.guard }], guard := some (8, true) } : Oper)) (v := .agg #[.int .i64 cnt, .int .i64 idx, .slice A1 m c1]) rfl (by kernel_rfl) (by kernel_rfl) (by kernel_rfl) (fun _ _ _ h => h) (Or.inl ⟨by rfl, fun w hSw => by obtain ⟨z0, z1, z2, z3⟩ := hSw; go_simp⟩) hHeld ?_
    simp only [Act.put, List.setIfInBounds_toArray, List.set_cons_zero, List.set_cons_succ]
    refine wpAnyH_take (i := 14) (oi := ({ dst := some 21, op := Op.fieldAddr 64 (Operand.tmp 1) 1, type := 0, pos := "law.go:69", after := #[{ on := 8, ground := Ground.guard }], guard := some (8, true) } : Oper)) (v := .pointer (some ⟨w.heap.size, 1, none⟩)) rfl (by kernel_rfl) (by kernel_rfl) (by kernel_rfl) (fun _ _ _ h => h) (Or.inl ⟨by rfl, fun w hSw => by go_simp⟩) hHeld ?_
    simp only [Act.put, List.setIfInBounds_toArray, List.set_cons_zero, List.set_cons_succ]
    refine wpAnyH_take (i := 15) (oi := ({ dst := some 22, op := Op.load 33 (Operand.tmp 21), type := 33, pos := "law.go:69", after := #[{ on := 14, ground := Ground.data }, { on := 8, ground := Ground.guard }], guard := some (8, true) } : Oper)) (v := .slice A0 m0 c0) rfl (by kernel_rfl) (by kernel_rfl) (by kernel_rfl) (fun _ _ _ h => h) (Or.inl ⟨by rfl, fun w hSw => by obtain ⟨z0, z1, z2, z3⟩ := hSw; go_simp⟩) hHeld ?_
    simp only [Act.put, List.setIfInBounds_toArray, List.set_cons_zero, List.set_cons_succ]
    refine wpAnyH_take (i := 16) (oi := ({ dst := some 23, op := Op.convert 33 9 (Operand.tmp 22), type := 9, pos := "law.go:69", after := #[{ on := 15, ground := Ground.data }, { on := 8, ground := Ground.guard }], guard := some (8, true) } : Oper)) (v := .string tz) rfl (by kernel_rfl) (by kernel_rfl) (by kernel_rfl) (fun _ _ _ h => h) (Or.inl ⟨by rfl, fun w hSw => by obtain ⟨z0, z1, z2, z3⟩ := hSw; go_simp⟩) hHeld ?_
    simp only [Act.put, List.setIfInBounds_toArray, List.set_cons_zero, List.set_cons_succ]
    refine wpAnyH_take (i := 17) (oi := ({ dst := some 24, op := Op.fieldAddr 64 (Operand.tmp 1) 2, type := 0, pos := "law.go:69", after := #[{ on := 8, ground := Ground.guard }], guard := some (8, true) } : Oper)) (v := .pointer (some ⟨w.heap.size, 2, none⟩)) rfl (by kernel_rfl) (by kernel_rfl) (by kernel_rfl) (fun _ _ _ h => h) (Or.inl ⟨by rfl, fun w hSw => by go_simp⟩) hHeld ?_
    simp only [Act.put, List.setIfInBounds_toArray, List.set_cons_zero, List.set_cons_succ]
    refine wpAnyH_take (i := 18) (oi := ({ dst := some 25, op := Op.load 41 (Operand.tmp 24), type := 41, pos := "law.go:69", after := #[{ on := 17, ground := Ground.data }, { on := 8, ground := Ground.guard }], guard := some (8, true) } : Oper)) (v := .agg #[.int .i64 cnt, .int .i64 idx, .slice A1 m c1]) rfl (by kernel_rfl) (by kernel_rfl) (by kernel_rfl) (fun _ _ _ h => h) (Or.inl ⟨by rfl, fun w hSw => by obtain ⟨z0, z1, z2, z3⟩ := hSw; go_simp⟩) hHeld ?_
    simp only [Act.put, List.setIfInBounds_toArray, List.set_cons_zero, List.set_cons_succ]
    refine wpAnyH_ready (rs := [13]) (by kernel_rfl) (by simp) ?_
    refine AllReadyH.cons (o := ({ dst := some 20, op := Op.call { callee := Callee.value (Operand.func 46), args := #[Operand.tmp 17, Operand.tmp 19], argTypes := #[33, 41] }, type := 62, pos := "law.go:69", after := #[{ on := 10, ground := Ground.data }, { on := 12, ground := Ground.data }, { on := 8, ground := Ground.chain }, { on := 8, ground := Ground.guard }], guard := some (8, true) } : Oper)) rfl (fun K hK => ?_) AllReadyH.nil
    go_simp
    (with_reducible refine (HCC.out _ HB5.out).mono ?_)
    rintro e w6 ⟨A6, c6, rfl, hC6, hb6⟩
    have HB6 := Lib.hid (HTR.out _ _ HB5.out hb6)
    have HC6 := Lib.hid hC6
    clear hC6 hb6
    go_wp2_with fail
    refine hK.out _ _ (HL1.out _ HB6.out) (fun hHeld => ?_)
    clear hK K
    try simp only [Act.put, List.setIfInBounds_toArray, List.set_cons_zero, List.set_cons_succ]
    refine wpAnyH_ready (rs := [19]) (by kernel_rfl) (by simp) ?_
    refine AllReadyH.cons (o := ({ dst := some 26, op := Op.call { callee := Callee.value (Operand.func 36), args := #[Operand.tmp 25], argTypes := #[41] }, type := 46, pos := "law.go:69", after := #[{ on := 18, ground := Ground.data }, { on := 13, ground := Ground.chain }, { on := 8, ground := Ground.guard }], guard := some (8, true) } : Oper)) rfl (fun K hK => ?_) AllReadyH.nil
    go_simp
    (with_reducible refine (HRF.out _ HB6.out).mono ?_)
    rintro e w7 ⟨A7, c7, rfl, hC7, hb7⟩
    have HB7 := Lib.hid (HTR.out _ _ HB6.out hb7)
    have HC7 := Lib.hid (And.intro (Kd.C_below HC6.out hb7) hC7)
    clear hC7 hb7
    go_wp2_with fail
    refine hK.out _ _ (HL1.out _ HB7.out) (fun hHeld => ?_)
    clear hK K
    try simp only [Act.put, List.setIfInBounds_toArray, List.set_cons_zero, List.set_cons_succ]
    refine wpAnyH_ready (rs := [20]) (by kernel_rfl) (by simp) ?_
    refine AllReadyH.cons (o := ({ dst := some 27, op := Op.call { callee := Callee.value (Operand.func 47), args := #[Operand.tmp 23, Operand.tmp 26], argTypes := #[9, 46] }, type := 68, pos := "law.go:69", after := #[{ on := 16, ground := Ground.data }, { on := 19, ground := Ground.data }, { on := 19, ground := Ground.chain }, { on := 8, ground := Ground.guard }], guard := some (8, true) } : Oper)) rfl (fun K hK => ?_) AllReadyH.nil
    go_simp
    (with_reducible refine (HRC.out _ A7 c7 HC7.out.2).mono ?_)
    rintro e w8 ⟨A8, c8, rfl, hC8, hb8⟩
    have HB8 := Lib.hid (HTR.out _ _ HB7.out hb8)
    have HC8 := Lib.hid (And.intro (Kd.C_below HC7.out.1 hb8) hC8)
    clear hC8 hb8
    go_wp2_with fail
    refine hK.out _ _ (HL1.out _ HB8.out) (fun hHeld => ?_)
    clear hK K
    try simp only [Act.put, List.setIfInBounds_toArray, List.set_cons_zero, List.set_cons_succ]
    refine wpAnyH_ready (rs := [21]) (by kernel_rfl) (by simp) ?_
    refine AllReadyH.cons (o := ({ dst := some 28, op := Op.call { callee := Callee.value (Operand.func 42), args := #[Operand.tmp 20, Operand.tmp 27], argTypes := #[62, 68] }, type := 4, pos := "law.go:69", after := #[{ on := 13, ground := Ground.data }, { on := 20, ground := Ground.data }, { on := 20, ground := Ground.chain }, { on := 8, ground := Ground.guard }], guard := some (8, true) } : Oper)) rfl (fun K hK => ?_) AllReadyH.nil
    go_simp
    (with_reducible refine (HS2.out _ A6 A8 c6 c8 HC8.out.1 HC8.out.2 (by have := HLT.out.2; omega)).mono ?_)
    rintro e w9 ⟨rfl, hb9⟩
    have HB9 := Lib.hid (HTR.out _ _ HB8.out hb9)
    clear hb9
    go_wp2_with fail
    refine hK.out _ _ (HL1.out _ HB9.out) (fun hHeld => ?_)
    clear hK K
    try simp only [Act.put, List.setIfInBounds_toArray, List.set_cons_zero, List.set_cons_succ]
    refine wpAnyH_take (i := 22) (oi := ({ dst := some 29, op := Op.pick (Operand.tmp 15) (Operand.tmp 28) (Operand.const (Value.bool false)), type := 4, pos := "law.go:69", after := #[{ on := 8, ground := Ground.data }, { on := 21, ground := Ground.data }], guard := none } : Oper)) (v := .bool true) rfl (by kernel_rfl) (by kernel_rfl) (by kernel_rfl) (fun _ _ _ h => h) (Or.inl ⟨by rfl, fun w hSw => by go_simp⟩) hHeld ?_
    simp only [Act.put, List.setIfInBounds_toArray, List.set_cons_zero, List.set_cons_succ]
    refine wpAnyH_take (i := 23) (oi := ({ dst := some 30, op := Op.move (Operand.tmp 29), type := 4, pos := "law.go:69", after := #[{ on := 22, ground := Ground.data }, { on := 21, ground := Ground.chain }], guard := none } : Oper)) (v := .bool true) rfl (by kernel_rfl) (by kernel_rfl) (by kernel_rfl) (fun _ _ _ h => h) (Or.inl ⟨by rfl, fun w hSw => by go_simp⟩) hHeld ?_
    simp only [Act.put, List.setIfInBounds_toArray, List.set_cons_zero, List.set_cons_succ]
    have HAW2 := Lib.hid (awake10_calls w9 (HKW.out.below (HTO.out _ HB9.out) (Nat.le_refl _)))
    refine wpAnyH_ready (rs := [24]) (by kernel_rfl) (by simp) ?_
    refine AllReadyH.cons (o := ({ dst := some 31, op := Op.call { callee := Callee.value (Operand.func 41), args := #[], argTypes := #[] }, type := 4, pos := "law.go:69", after := #[{ on := 23, ground := Ground.chain }, { on := 23, ground := Ground.guard }], guard := some (23, true) } : Oper)) rfl (fun K hK => ?_) AllReadyH.nil
    go_simp
    (with_reducible refine HAW2.out.mono ?_)
    rintro e v9 ⟨rfl, hb9⟩
    have HBv := Lib.hid (HTR.out _ _ HB9.out hb9)
    clear hb9
    go_wp2_with fail
    refine hK.out _ _ (HL1.out _ HBv.out) (fun hHeld => ?_)
    clear hK K
    try simp only [Act.put, List.setIfInBounds_toArray, List.set_cons_zero, List.set_cons_succ]
    refine wpAnyH_take (i := 25) (oi := ({ dst := some 32, op := Op.pick (Operand.tmp 30) (Operand.tmp 31) (Operand.const (Value.bool false)), type := 4, pos := "law.go:69", after := #[{ on := 23, ground := Ground.data }, { on := 24, ground := Ground.data }], guard := none } : Oper)) (v := .bool true) rfl (by kernel_rfl) (by kernel_rfl) (by kernel_rfl) (fun _ _ _ h => h) (Or.inl ⟨by rfl, fun w hSw => by go_simp⟩) hHeld ?_
    simp only [Act.put, List.setIfInBounds_toArray, List.set_cons_zero, List.set_cons_succ]
    refine wpAnyH_take (i := 26) (oi := ({ dst := some 2, op := Op.assign (Operand.tmp 32), type := 4, pos := "law.go:69", after := #[{ on := 25, ground := Ground.data }, { on := 24, ground := Ground.chain }, { on := 0, ground := Ground.phase }, { on := 1, ground := Ground.phase }, { on := 2, ground := Ground.phase }, { on := 3, ground := Ground.phase }, { on := 4, ground := Ground.phase }, { on := 5, ground := Ground.phase }, { on := 6, ground := Ground.phase }, { on := 7, ground := Ground.phase }, { on := 8, ground := Ground.phase }, { on := 9, ground := Ground.phase }, { on := 10, ground := Ground.phase }, { on := 11, ground := Ground.phase }, { on := 12, ground := Ground.phase }, { on := 13, ground := Ground.phase }, { on := 14, ground := Ground.phase }, { on := 15, ground := Ground.phase }, { on := 16, ground := Ground.phase }, { on := 17, ground := Ground.phase }, { on := 18, ground := Ground.phase }, { on := 19, ground := Ground.phase }, { on := 20, ground := Ground.phase }, { on := 21, ground := Ground.phase }, { on := 22, ground := Ground.phase }, { on := 23, ground := Ground.phase }, { on := 24, ground := Ground.phase }, { on := 25, ground := Ground.phase }], guard := none } : Oper)) (v := .bool true) rfl (by kernel_rfl) (by kernel_rfl) (by kernel_rfl) (fun _ _ _ h => h) (Or.inl ⟨by rfl, fun w hSw => by go_simp⟩) hHeld ?_
    simp only [Act.put, List.setIfInBounds_toArray, List.set_cons_zero, List.set_cons_succ]
    refine wpAnyH_done (by kernel_rfl) ?_ _
    clear hHeld
    go_wp2
    go_ret
    exact ⟨rfl, HTO.out _ HBv.out⟩
end Go.Proofs.YtlmcdkjobdcflaaDoor.Hand

