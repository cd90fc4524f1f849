/- The document's Right: walked. -/
import Derived.Test.YtlmcdkjobdcflaaDoorProg
import Derived.Below
import Derived.Deep.Draws
import Derived.Deep.AppendLies
import Derived.Maps.AppendAt
import Derived.OwnWalk
import Derived.Laws.BytesArg
import Derived.Laws.MakeOwn
import Derived.Laws.OwnMore
import Derived.Deep.OwnRows
import Derived.Tactics
import Derived.Lib.ConvBytes
import Derived.Laws.Slices
import Derived.WalkKit
import Derived.KernelRfl
import Derived.RowKit3
import Derived.Deep.LoopGhost
import Derived.Deep.QuietTactic
import Derived.BigQuiet
import Derived.WideLaws
import Derived.Deep.DeepCutAuto
import Derived.Deep.CutBlock
import Derived.Deep.RegionHeld3
import Derived.Laws.Rows
import Derived.Lib.AppendStr
import Derived.ArgAppend
import Derived.Laws.IdiomCopy
import Derived.OrdersHeld
import Derived.Laws.BitsLemmas
import Derived.RowKit
import Derived.StillTailTactics
import Derived.Test.YtlmcdkjobdcflaaDoorWWords
import Derived.Test.YtlmcdkjobdcflaaDoorWLast
import Derived.Test.YtlmcdkjobdcflaaDoorWMore
import Derived.Lib.Hide
import Derived.Outline
import Derived.Deep.DrawnRows
import Derived.Test.YtlmcdkjobdcflaaDoorBranA
namespace Go.Proofs.YtlmcdkjobdcflaaDoor.Hand
open Go Go.RowKit Go.Proofs.YtlmcdkjobdcflaaDoor.Plain Go.Proofs.YtlmcdkjobdcflaaDoor.PAll Go.Proofs.YtlmcdkjobdcflaaDoorW.PrintWords Go.Proofs.YtlmcdkjobdcflaaDoorW.PrintLast Go.Proofs.YtlmcdkjobdcflaaDoorW.PrintMore
set_option linter.unusedVariables false
set_option linter.unusedSimpArgs false
set_option maxRecDepth 100000
attribute [local go_sem ↓] Go.wp_at_zero Go.wp_at_succ
set_option maxHeartbeats 2000000 in
theorem rright_calls (cnt idx : Int) (A : Option Addr) (m c : Nat) (w : World) (hm : m ≤ 9223372036854775807) (h0 : -9223372036854775808 ≤ cnt) (h1 : cnt ≤ 9223372036854775807) :
    Calls Tryd.prog 38 #[bV cnt idx A m c] w fun e w' => e = .returned (.int .i64 (brightP cnt idx m)) ∧ Below w.heap.size w w' := by
  have hk := heap_alloc_new w (.cells #[.int .i64 cnt, .int .i64 idx, .slice A m c] 46)
  have k0 : (w.alloc (.cells #[.int .i64 cnt, .int .i64 idx, .slice A m c] 46)).cell? ⟨w.heap.size, 0, none⟩ = some (.int .i64 cnt) := (blk_cell hk 0).trans rfl
  have k1 : (w.alloc (.cells #[.int .i64 cnt, .int .i64 idx, .slice A m c] 46)).cell? ⟨w.heap.size, 1, none⟩ = some (.int .i64 idx) := (blk_cell hk 1).trans rfl
  have k2 : (w.alloc (.cells #[.int .i64 cnt, .int .i64 idx, .slice A m c] 46)).cell? ⟨w.heap.size, 2, none⟩ = some (.slice A m c) := (blk_cell hk 2).trans rfl
  have HB := Lib.hid (below_alloc (Below.refl w.heap.size w) (.cells #[.int .i64 cnt, .int .i64 idx, .slice A m c] 46))
  unfold bV
  by_cases hbad : cnt < 1 ∨ 65536 < cnt ∨ idx < 0 ∨ cnt ≤ idx
  · have hv : brightP cnt idx m = 5 := if_pos hbad
    rw [hv]
    clear hv
    go_enter Tryd.func38, Tryd.ntmps38
    go_wp2_with fail
    all_goals go_ret
    all_goals exact ⟨rfl, HB.out⟩
  · have f0 : ¬ cnt < 1 := by omega
    have f1 : ¬ 65536 < cnt := by omega
    have f2 : ¬ idx < 0 := by omega
    have f3 : ¬ cnt ≤ idx := by omega
    have hv0 : brightP cnt idx m = if m ≠ depthP cnt.toNat then 3 else 0 := if_neg hbad
    obtain ⟨q, rfl⟩ : ∃ q : Nat, cnt = (q : Int) := ⟨cnt.toNat, by omega⟩
    have HD := Lib.hid (fun u => rdepth_calls q u (by omega))
    rw [Int.toNat_natCast] at hv0
    obtain ⟨D, hD⟩ : ∃ D, depthP q = D := ⟨_, rfl⟩
    rw [hD] at HD hv0
    clear hD hbad
    by_cases hmd : m = D
    · have hv : brightP (q : Int) idx m = 0 := by rw [hv0, if_neg (by simpa using hmd)]
      subst hmd
      clear hv0
      rw [hv]
      clear hv
      go_enter Tryd.func38, Tryd.ntmps38
      go_wp2_with fail
      obtain ⟨W, hW⟩ : ∃ W, w.alloc (.cells #[.int .i64 (q : Int), .int .i64 idx, .slice A m c] 46) = W := ⟨_, rfl⟩
      rw [hW] at k0 k2 HB ⊢
      have HB1 := Lib.hid (below_drew HB.out)
      have hHeld : W.drew.cell? ⟨w.heap.size, 0, none⟩ = some (.int .i64 (q : Int)) ∧ W.drew.cell? ⟨w.heap.size, 2, none⟩ = some (.slice A m c) := ⟨k0, k2⟩
      have HH := Lib.hid hHeld
      clear k0 k1 k2 hk hW
      refine wp_region_held (S := fun u => u.cell? ⟨w.heap.size, 0, none⟩ = some (.int .i64 (q : Int)) ∧ u.cell? ⟨w.heap.size, 2, none⟩ = some (.slice A m c)) (by kernel_rfl) ?_
      change wpAnyH _ _ _ _ _ _ _ _ (World.drew _)
      refine wpAnyH_take (i := 0) (oi := ({ dst := some 23, op := Op.fieldAddr 46 (Operand.tmp 1) 2, type := 0, pos := "ref.go:34", after := #[], guard := none } : Oper)) (v := .pointer (some ⟨w.heap.size, 2, none⟩)) rfl (by kernel_rfl) (by kernel_rfl) (by kernel_rfl) (fun _ _ _ h => h) (Or.inl ⟨by rfl, fun w hSw => by go_simp⟩) hHeld ?_
      simp only [Act.put, List.setIfInBounds_toArray, List.set_cons_zero, List.set_cons_succ]
      refine wpAnyH_take (i := 1) (oi := ({ dst := some 24, op := Op.load 28 (Operand.tmp 23), type := 28, pos := "ref.go:34", after := #[{ on := 0, ground := Ground.data }], guard := none } : Oper)) (v := .slice A m c) rfl (by kernel_rfl) (by kernel_rfl) (by kernel_rfl) (fun _ _ _ h => h) (Or.inl ⟨by rfl, fun w hSw => by obtain ⟨z0, z2⟩ := hSw; go_simp⟩) hHeld ?_
      simp only [Act.put, List.setIfInBounds_toArray, List.set_cons_zero, List.set_cons_succ]
      refine wpAnyH_take (i := 2) (oi := ({ dst := some 25, op := Op.call { callee := Callee.builtin Builtin.len, args := #[Operand.tmp 24], argTypes := #[28] }, type := 3, pos := "ref.go:34", after := #[{ on := 1, ground := Ground.data }], guard := none } : Oper)) (v := .int .i64 (m : Int)) rfl (by kernel_rfl) (by kernel_rfl) (by kernel_rfl) (fun _ _ _ h => h) (Or.inl ⟨by rfl, fun w hSw => by go_simp⟩) hHeld ?_
      simp only [Act.put, List.setIfInBounds_toArray, List.set_cons_zero, List.set_cons_succ]
      refine wpAnyH_take (i := 3) (oi := ({ dst := some 26, op := Op.fieldAddr 46 (Operand.tmp 1) 0, type := 0, pos := "ref.go:34", after := #[], guard := none } : Oper)) (v := .pointer (some ⟨w.heap.size, 0, none⟩)) rfl (by kernel_rfl) (by kernel_rfl) (by kernel_rfl) (fun _ _ _ h => h) (Or.inl ⟨by rfl, fun w hSw => by go_simp⟩) hHeld ?_
      simp only [Act.put, List.setIfInBounds_toArray, List.set_cons_zero, List.set_cons_succ]
      refine wpAnyH_take (i := 4) (oi := ({ dst := some 27, op := Op.load 3 (Operand.tmp 26), type := 3, pos := "ref.go:34", after := #[{ on := 3, ground := Ground.data }], guard := none } : Oper)) (v := .int .i64 (q : Int)) rfl (by kernel_rfl) (by kernel_rfl) (by kernel_rfl) (fun _ _ _ h => h) (Or.inl ⟨by rfl, fun w hSw => by obtain ⟨z0, z2⟩ := hSw; go_simp⟩) hHeld ?_
      simp only [Act.put, List.setIfInBounds_toArray, List.set_cons_zero, List.set_cons_succ]
      refine wpAnyH_ready (rs := [5]) (by kernel_rfl) (by simp) ?_
      refine AllReadyH.cons (o := ({ dst := some 28, op := Op.call { callee := Callee.value (Operand.func 54), args := #[Operand.tmp 27], argTypes := #[3] }, type := 3, pos := "ref.go:34", after := #[{ on := 4, ground := Ground.data }], guard := none } : Oper)) rfl (fun K hK => ?_) AllReadyH.nil
      go_simp
      (with_reducible refine (HD.out _).mono ?_)
      rintro e w3 ⟨rfl, ⟨nd, rfl⟩⟩
      have HB3 := Lib.hid (pw_below_drewN HB1.out nd)
      refine hK.out _ _ (HH.out) (fun hHeld => ?_)
      clear hK K
      try simp only [Act.put, List.setIfInBounds_toArray, List.set_cons_zero, List.set_cons_succ]
      refine wpAnyH_take (i := 6) (oi := ({ dst := some 29, op := Op.binOp BinOp.neq 3 (Operand.tmp 25) (Operand.tmp 28) 3, type := 4, pos := "ref.go:34", after := #[{ on := 2, ground := Ground.data }, { on := 5, ground := Ground.data }], guard := none } : Oper)) (v := .bool false) rfl (by kernel_rfl) (by kernel_rfl) (by kernel_rfl) (fun _ _ _ h => h) (Or.inl ⟨by rfl, fun w hSw => by go_simp⟩) hHeld ?_
      simp only [Act.put, List.setIfInBounds_toArray, List.set_cons_zero, List.set_cons_succ]
      refine wpAnyH_done (by kernel_rfl) ?_ _
      clear hHeld
      go_wp2_with fail
      go_ret
      exact ⟨rfl, HB3.out⟩
    · have hv : brightP (q : Int) idx m = 3 := by rw [hv0, if_pos hmd]
      have hmi : ¬ (m : Int) = (D : Int) := by omega
      clear hv0
      rw [hv]
      clear hv
      go_enter Tryd.func38, Tryd.ntmps38
      go_wp2_with fail
      obtain ⟨W, hW⟩ : ∃ W, w.alloc (.cells #[.int .i64 (q : Int), .int .i64 idx, .slice A m c] 46) = W := ⟨_, rfl⟩
      rw [hW] at k0 k2 HB ⊢
      have HB1 := Lib.hid (below_drew HB.out)
      have hHeld : W.drew.cell? ⟨w.heap.size, 0, none⟩ = some (.int .i64 (q : Int)) ∧ W.drew.cell? ⟨w.heap.size, 2, none⟩ = some (.slice A m c) := ⟨k0, k2⟩
      have HH := Lib.hid hHeld
      clear k0 k1 k2 hk hW
      refine wp_region_held (S := fun u => u.cell? ⟨w.heap.size, 0, none⟩ = some (.int .i64 (q : Int)) ∧ u.cell? ⟨w.heap.size, 2, none⟩ = some (.slice A m c)) (by kernel_rfl) ?_
      change wpAnyH _ _ _ _ _ _ _ _ (World.drew _)
      refine wpAnyH_take (i := 0) (oi := ({ dst := some 23, op := Op.fieldAddr 46 (Operand.tmp 1) 2, type := 0, pos := "ref.go:34", after := #[], guard := none } : Oper)) (v := .pointer (some ⟨w.heap.size, 2, none⟩)) rfl (by kernel_rfl) (by kernel_rfl) (by kernel_rfl) (fun _ _ _ h => h) (Or.inl ⟨by rfl, fun w hSw => by go_simp⟩) hHeld ?_
      simp only [Act.put, List.setIfInBounds_toArray, List.set_cons_zero, List.set_cons_succ]
      refine wpAnyH_take (i := 1) (oi := ({ dst := some 24, op := Op.load 28 (Operand.tmp 23), type := 28, pos := "ref.go:34", after := #[{ on := 0, ground := Ground.data }], guard := none } : Oper)) (v := .slice A m c) rfl (by kernel_rfl) (by kernel_rfl) (by kernel_rfl) (fun _ _ _ h => h) (Or.inl ⟨by rfl, fun w hSw => by obtain ⟨z0, z2⟩ := hSw; go_simp⟩) hHeld ?_
      simp only [Act.put, List.setIfInBounds_toArray, List.set_cons_zero, List.set_cons_succ]
      refine wpAnyH_take (i := 2) (oi := ({ dst := some 25, op := Op.call { callee := Callee.builtin Builtin.len, args := #[Operand.tmp 24], argTypes := #[28] }, type := 3, pos := "ref.go:34", after := #[{ on := 1, ground := Ground.data }], guard := none } : Oper)) (v := .int .i64 (m : Int)) rfl (by kernel_rfl) (by kernel_rfl) (by kernel_rfl) (fun _ _ _ h => h) (Or.inl ⟨by rfl, fun w hSw => by go_simp⟩) hHeld ?_
      simp only [Act.put, List.setIfInBounds_toArray, List.set_cons_zero, List.set_cons_succ]
      refine wpAnyH_take (i := 3) (oi := ({ dst := some 26, op := Op.fieldAddr 46 (Operand.tmp 1) 0, type := 0, pos := "ref.go:34", after := #[], guard := none } : Oper)) (v := .pointer (some ⟨w.heap.size, 0, none⟩)) rfl (by kernel_rfl) (by kernel_rfl) (by kernel_rfl) (fun _ _ _ h => h) (Or.inl ⟨by rfl, fun w hSw => by go_simp⟩) hHeld ?_
      simp only [Act.put, List.setIfInBounds_toArray, List.set_cons_zero, List.set_cons_succ]
      refine wpAnyH_take (i := 4) (oi := ({ dst := some 27, op := Op.load 3 (Operand.tmp 26), type := 3, pos := "ref.go:34", after := #[{ on := 3, ground := Ground.data }], guard := none } : Oper)) (v := .int .i64 (q : Int)) rfl (by kernel_rfl) (by kernel_rfl) (by kernel_rfl) (fun _ _ _ h => h) (Or.inl ⟨by rfl, fun w hSw => by obtain ⟨z0, z2⟩ := hSw; go_simp⟩) hHeld ?_
      simp only [Act.put, List.setIfInBounds_toArray, List.set_cons_zero, List.set_cons_succ]
      refine wpAnyH_ready (rs := [5]) (by kernel_rfl) (by simp) ?_
      refine AllReadyH.cons (o := ({ dst := some 28, op := Op.call { callee := Callee.value (Operand.func 54), args := #[Operand.tmp 27], argTypes := #[3] }, type := 3, pos := "ref.go:34", after := #[{ on := 4, ground := Ground.data }], guard := none } : Oper)) rfl (fun K hK => ?_) AllReadyH.nil
      go_simp
      (with_reducible refine (HD.out _).mono ?_)
      rintro e w3 ⟨rfl, ⟨nd, rfl⟩⟩
      have HB3 := Lib.hid (pw_below_drewN HB1.out nd)
      refine hK.out _ _ (HH.out) (fun hHeld => ?_)
      clear hK K
      try simp only [Act.put, List.setIfInBounds_toArray, List.set_cons_zero, List.set_cons_succ]
      refine wpAnyH_take (i := 6) (oi := ({ dst := some 29, op := Op.binOp BinOp.neq 3 (Operand.tmp 25) (Operand.tmp 28) 3, type := 4, pos := "ref.go:34", after := #[{ on := 2, ground := Ground.data }, { on := 5, ground := Ground.data }], guard := none } : Oper)) (v := .bool true) rfl (by kernel_rfl) (by kernel_rfl) (by kernel_rfl) (fun _ _ _ h => h) (Or.inl ⟨by rfl, fun w hSw => by go_simp⟩) hHeld ?_
      simp only [Act.put, List.setIfInBounds_toArray, List.set_cons_zero, List.set_cons_succ]
      refine wpAnyH_done (by kernel_rfl) ?_ _
      clear hHeld
      go_wp2_with fail
      go_ret
      exact ⟨rfl, HB3.out⟩
end Go.Proofs.YtlmcdkjobdcflaaDoor.Hand
