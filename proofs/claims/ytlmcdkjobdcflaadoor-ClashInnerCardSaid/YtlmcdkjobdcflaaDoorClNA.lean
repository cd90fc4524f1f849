/- Several texts in one. -/
import Derived.Test.YtlmcdkjobdcflaaDoorProg
import Derived.Below
import Derived.Deep.Draws
import Derived.Deep.AppendLies
import Derived.Maps.AppendAt
import Derived.OwnWalk
import Derived.Laws.BytesArg
import Derived.Laws.MakeOwn
import Derived.Laws.OwnMore
import Derived.Deep.OwnRows
import Derived.Tactics
import Derived.Lib.ConvBytes
import Derived.Laws.Slices
import Derived.WalkKit
import Derived.KernelRfl
import Derived.RowKit3
import Derived.Deep.LoopGhost
import Derived.Deep.QuietTactic
import Derived.BigQuiet
import Derived.WideLaws
import Derived.Deep.DeepCutAuto
import Derived.Deep.CutBlock
import Derived.Deep.RegionHeld3
import Derived.Laws.Rows
import Derived.Lib.AppendStr
import Derived.ArgAppend
import Derived.Laws.IdiomCopy
import Derived.OrdersHeld
import Derived.Laws.BitsLemmas
import Derived.RowKit
import Derived.StillTailTactics
import Derived.Test.YtlmcdkjobdcflaaDoorWWords
import Derived.Test.YtlmcdkjobdcflaaDoorWLast
import Derived.Test.YtlmcdkjobdcflaaDoorWMore
import Derived.Lib.Hide
import Derived.Outline
import Derived.Deep.MidRow
import Derived.Deep.WholeRow
import Derived.Deep.DrawnRows
import Derived.Test.YtlmcdkjobdcflaaDoorDepth
import Derived.Test.YtlmcdkjobdcflaaDoorMerkA
import Derived.Test.YtlmcdkjobdcflaaDoorArrEq
/- Several texts in one. -/
/- The document's pair, and its node of a level: walked. -/
namespace Go.Proofs.YtlmcdkjobdcflaaDoor.Hand
open Go Go.RowKit Go.Proofs.YtlmcdkjobdcflaaDoor.Plain Go.Proofs.YtlmcdkjobdcflaaDoor.PAll Go.Proofs.YtlmcdkjobdcflaaDoorW.PrintWords Go.Proofs.YtlmcdkjobdcflaaDoorW.PrintLast Go.Proofs.YtlmcdkjobdcflaaDoorW.PrintMore
set_option linter.unusedVariables false
set_option linter.unusedSimpArgs false
set_option maxRecDepth 100000
attribute [local go_sem ↓] Go.wp_at_zero Go.wp_at_succ
attribute [-go_sem] loadVar storeVar Instr.buildSlice
theorem str_append (a b : List Int) : strOfNums (a ++ b) = strOfNums a ++ strOfNums b := by
  apply ByteArray.ext
  simp [strOfNums, ByteArray.data_append]
theorem below_of_drew {w w1 : World} (h : Below w.drew.heap.size w.drew w1) : Below w.heap.size w w1 := (below_drew (Below.refl _ w)).trans h
theorem setRow_alloc_end (w : World) (c c' : Array Value) (t : TypeId) : (w.alloc (.cells c t)).setRow w.heap.size c' = w.alloc (.cells c' t) := World.setRow_alloc_new w c c' t
end Go.Proofs.YtlmcdkjobdcflaaDoor.Hand

/- The document's root of a list, and whether a list is doubled: walked. -/
namespace Go.Proofs.YtlmcdkjobdcflaaDoor.Hand
open Go Go.RowKit Go.Proofs.YtlmcdkjobdcflaaDoor.Plain Go.Proofs.YtlmcdkjobdcflaaDoor.PAll Go.Proofs.YtlmcdkjobdcflaaDoorW.PrintWords Go.Proofs.YtlmcdkjobdcflaaDoorW.PrintLast Go.Proofs.YtlmcdkjobdcflaaDoorW.PrintMore
set_option linter.unusedVariables false
set_option linter.unusedSimpArgs false
set_option maxRecDepth 100000
theorem eqR (S T : List Int) (hS : S.length = 32) (hT : T.length = 32) (w : World) : (Op.equalIn 10000 24 (.agg (nums .u8 S).toArray) (.agg (nums .u8 T).toArray)).run Tryd.prog w = .ok (S == T) w :=
  run_equalIn_nums (P := Tryd.prog) w 9998 24 5 32 .u8 Tryd.underlying24 Tryd.underlying5 (fun w => by rfl) S T hS hT
theorem built32 : Tryd.prog.built 24 [] = some (nums .u8 (List.replicate 32 0)).toArray := by kernel_rfl
theorem rootP_node {xs : List (List Int)} (h : 1 ≤ xs.length) : nodeP xs (depthP xs.length) 0 = rootP xs := by
  have hd := depthP_is xs.length
  rw [rootP_of hd, rootAt_depth hd h, nodeP_lev]
  exact wideP_pos h _
theorem depthP_le {n : Nat} (h : n ≤ 100000) : depthP n ≤ 1000 := by
  have := depth_le (depthP_is n) (m := 17) (by have : (2 : Nat) ^ 17 = 131072 := by decide
                                               omega)
  omega
end Go.Proofs.YtlmcdkjobdcflaaDoor.Hand

/- The law's lists: the document's form of a list of hashes, and a few small ones: walked. -/
namespace Go.Proofs.YtlmcdkjobdcflaaDoor.Hand
open Go Go.RowKit Go.Proofs.YtlmcdkjobdcflaaDoor.Plain Go.Proofs.YtlmcdkjobdcflaaDoor.PAll Go.Proofs.YtlmcdkjobdcflaaDoorW.PrintWords Go.Proofs.YtlmcdkjobdcflaaDoorW.PrintLast Go.Proofs.YtlmcdkjobdcflaaDoorW.PrintMore
set_option linter.unusedVariables false
set_option linter.unusedSimpArgs false
set_option maxRecDepth 100000
theorem run_load_u8 (w : World) (a : Addr) (v : Value) (h : w.cell? a = some v) : (loadVar 5 a).run Tryd.prog w = .ok v w := by
  go_simp
attribute [-go_sem] loadVar storeVar Instr.buildSlice
theorem info32c : (Tryd.prog.info? 24).map (fun i => (i.zero, i.size, i.bytes)) = some (some (.agg (nums .u8 (List.replicate 32 0)).toArray), 32, 32) := by kernel_rfl
theorem run_hash1r (p : List Int) (h : p.length = 32) (W : World) : (Instr.buildSlice 28 1 #[(0, .agg (nums .u8 p).toArray)]).run Tryd.prog W = .ok (.slice (some ⟨W.heap.size, 0, none⟩) 1 1) (W.alloc (.cells (nums .u8 p).toArray 24)) := by
  obtain ⟨x0, x1, x2, x3, x4, x5, x6, x7, x8, x9, x10, x11, x12, x13, x14, x15, x16, x17, x18, x19, x20, x21, x22, x23, x24, x25, x26, x27, x28, x29, x30, x31, rfl⟩ := list32 p h
  kernel_rfl
theorem take_hash {xs : List (List Int)} {k : Nat} (h : k < xs.length) : xs.take (k + 1) = xs.take k ++ [rdH xs k] := by
  rw [List.take_succ_eq_append_getElem h, rdH_eq h]
/-- A small hash. -/
def smallH (x : Int) : List Int := x :: List.replicate 31 0
theorem smallH_hash {x : Int} (h : 0 ≤ x ∧ x < 256) : (smallH x).length = 32 ∧ ∀ y ∈ smallH x, 0 ≤ y ∧ y < 256 := by
  refine ⟨by simp [smallH], fun y hy => ?_⟩
  rcases List.mem_cons.1 hy with rfl | hy
  · exact h
  · have := List.eq_of_mem_replicate hy
    omega
theorem built_small (x : Int) : Tryd.prog.built 25 [(0, .int .u8 x)] = some (nums .u8 (smallH x)).toArray := by kernel_rfl
def fewP (l : List Int) : List (List Int) := (l.take 20).map smallH
theorem fewP_Hs {l : List Int} (h : ∀ x ∈ l, 0 ≤ x ∧ x < 256) : Hs (fewP l) := by
  intro p hp
  simp only [fewP, List.mem_map] at hp
  obtain ⟨x, hx, rfl⟩ := hp
  exact smallH_hash (h x (List.mem_of_mem_take hx))
theorem fewP_take {l : List Int} {k : Nat} (h : k < l.length) (h2 : k < 20) : (fewP l).take (k + 1) = (fewP l).take k ++ [smallH (rd l (k : Int))] := by
  have hl : k < (fewP l).length := by simp [fewP]; omega
  rw [List.take_succ_eq_append_getElem hl]
  simp [fewP, rd, h]
end Go.Proofs.YtlmcdkjobdcflaaDoor.Hand

/- The law's lists, chapter 09's: walked (as chapter 08's refs). -/
namespace Go.Proofs.YtlmcdkjobdcflaaDoor.Hand
open Go Go.RowKit Go.Proofs.YtlmcdkjobdcflaaDoor.Plain Go.Proofs.YtlmcdkjobdcflaaDoor.PAll Go.Proofs.YtlmcdkjobdcflaaDoorW.PrintWords Go.Proofs.YtlmcdkjobdcflaaDoorW.PrintLast Go.Proofs.YtlmcdkjobdcflaaDoorW.PrintMore
set_option linter.unusedVariables false
set_option linter.unusedSimpArgs false
set_option maxRecDepth 100000
attribute [-go_sem] loadVar storeVar Instr.buildSlice
end Go.Proofs.YtlmcdkjobdcflaaDoor.Hand


/- Several texts in one. -/
/- The hash lists' awake: walked. -/
namespace Go.Proofs.YtlmcdkjobdcflaaDoor.Hand
open Go Go.RowKit Go.Proofs.YtlmcdkjobdcflaaDoor.Plain Go.Proofs.YtlmcdkjobdcflaaDoor.PAll Go.Proofs.YtlmcdkjobdcflaaDoorW.PrintWords Go.Proofs.YtlmcdkjobdcflaaDoorW.PrintLast Go.Proofs.YtlmcdkjobdcflaaDoorW.PrintMore
set_option linter.unusedVariables false
set_option linter.unusedSimpArgs false
set_option maxRecDepth 100000
attribute [local go_sem ↓] Go.wp_at_zero Go.wp_at_succ
attribute [-go_sem] loadVar storeVar Instr.buildSlice
theorem depth5 : depthP (5 : Int).toNat = 3 := by decide
theorem root_one (a : List Int) : rootP [a] = a := by
  have hd : IsDepth [a].length 0 := ⟨by simp, fun i hi => absurd hi (by omega)⟩
  rw [rootP_of hd, rootAt_depth hd (by simp)]
  rfl
theorem root_two (a b : List Int) : rootP [a, b] = twiceP (a ++ b) := by
  have hd : IsDepth [a, b].length 1 := ⟨by simp, fun i hi => by
    obtain rfl : i = 0 := by omega
    simp⟩
  rw [rootP_of hd, rootAt_depth hd (by simp), lev, lev, rdH_above (by simp), aboveAt]
  simp [rdH]
theorem doub_two (a : List Int) : doubP [a, a] = true := by
  have hd : IsDepth [a, a].length 1 := ⟨by simp, fun i hi => by
    obtain rfl : i = 0 := by omega
    simp⟩
  rw [doubP_of hd]
  refine doubAt_mono (i := 1) ?_ 2 (by omega)
  show (false || pairedP [a, a]) = true
  simp [pairedP, rdH]
theorem C_hash1 {w : World} {g : Nat} {t : TypeId} {fr : Nat × Nat} {p : List Int} (h : p.length = 32) (hb : w.heap[g]? = some (.cells (nums .u8 p).toArray t fr)) : Kd.C kH w (some ⟨g, 0, none⟩) 1 [p] :=
  C_of_hcs (xs := [p]) (by simpa [hcs] using hb) (by simp [h]) (by simp)
theorem C_hash2 {w : World} {g : Nat} {t : TypeId} {fr : Nat × Nat} {p q : List Int} (h : p.length = 32) (h2 : q.length = 32) (hb : w.heap[g]? = some (.cells (nums .u8 p ++ nums .u8 q).toArray t fr)) : Kd.C kH w (some ⟨g, 0, none⟩) 2 [p, q] :=
  C_of_hcs (xs := [p, q]) (by simpa [hcs] using hb) (by simp [h, h2]) (by simp)
theorem run_hash2 (x y : Int) (W : World) : (Instr.buildSlice 22 2 #[(0, .agg (nums .u8 (smallH x)).toArray), (1, .agg (nums .u8 (smallH y)).toArray)]).run Tryd.prog W = .ok (.slice (some ⟨W.heap.size, 0, none⟩) 2 2) (W.alloc (.cells (nums .u8 (smallH x) ++ nums .u8 (smallH y)).toArray 25)) := by
  kernel_rfl
end Go.Proofs.YtlmcdkjobdcflaaDoor.Hand

/- The laws MerkleRoots and MerkleDoubled: walked. -/
namespace Go.Proofs.YtlmcdkjobdcflaaDoor.Hand
open Go Go.RowKit Go.Proofs.YtlmcdkjobdcflaaDoor.Plain Go.Proofs.YtlmcdkjobdcflaaDoor.PAll Go.Proofs.YtlmcdkjobdcflaaDoorW.PrintWords Go.Proofs.YtlmcdkjobdcflaaDoorW.PrintLast Go.Proofs.YtlmcdkjobdcflaaDoorW.PrintMore
set_option linter.unusedVariables false
set_option linter.unusedSimpArgs false
set_option maxRecDepth 100000
theorem Hs_of {w : World} {A : Option Addr} {xs : List (List Int)} (h : Kd.C kH w A xs.length xs) (ok : ∀ x ∈ xs, ∀ y ∈ x, (Lit.int .u8 y).wf = true) : Hs xs := by
  intro p hp
  obtain ⟨i, hi, rfl⟩ := List.mem_iff_getElem.1 hp
  obtain ⟨b, o, _, _, hrg⟩ := C_hash h (by omega)
  have h1 := (hrg i hi).2
  rw [rdH_eq hi] at h1
  exact ⟨h1, Plain.wf_u8s (ok _ (List.getElem_mem hi))⟩
end Go.Proofs.YtlmcdkjobdcflaaDoor.Hand


/- Several texts in one. -/
/- What is wrong with a branch's numbers: the plain form, and walked. -/
namespace Go.Proofs.YtlmcdkjobdcflaaDoor.Hand
open Go Go.RowKit Go.Proofs.YtlmcdkjobdcflaaDoor.Plain Go.Proofs.YtlmcdkjobdcflaaDoor.PAll Go.Proofs.YtlmcdkjobdcflaaDoorW.PrintWords Go.Proofs.YtlmcdkjobdcflaaDoorW.PrintLast Go.Proofs.YtlmcdkjobdcflaaDoorW.PrintMore
set_option linter.unusedVariables false
set_option linter.unusedSimpArgs false
set_option maxRecDepth 100000
attribute [local go_sem ↓] Go.wp_at_zero Go.wp_at_succ
/-- A branch's value. -/
def bV (cnt idx : Int) (A : Option Addr) (m c : Nat) : Value := .agg #[.int .i64 cnt, .int .i64 idx, .slice A m c]
/-- What is wrong with its numbers. -/
def brightP (cnt idx : Int) (m : Nat) : Int := if cnt < 1 ∨ 65536 < cnt ∨ idx < 0 ∨ cnt ≤ idx then 5 else if m ≠ depthP cnt.toNat then 3 else 0
set_option maxHeartbeats 2000000 in
theorem bright_calls (cnt idx : Int) (A : Option Addr) (m c : Nat) (w : World) (hm : m ≤ 9223372036854775807) (h0 : -9223372036854775808 ≤ cnt) (h1 : cnt ≤ 9223372036854775807) :
    Calls Tryd.prog 37 #[bV cnt idx A m c] w fun e w' => e = .returned (.int .i64 (brightP cnt idx m)) ∧ Below w.heap.size w w' := by
  have HD := Lib.hid (fun u => depth_calls cnt u h0 h1)
  have hk := heap_alloc_new w (.cells #[.int .i64 cnt, .int .i64 idx, .slice A m c] 41)
  have k0 : (w.alloc (.cells #[.int .i64 cnt, .int .i64 idx, .slice A m c] 41)).cell? ⟨w.heap.size, 0, none⟩ = some (.int .i64 cnt) := (blk_cell hk 0).trans rfl
  have k1 : (w.alloc (.cells #[.int .i64 cnt, .int .i64 idx, .slice A m c] 41)).cell? ⟨w.heap.size, 1, none⟩ = some (.int .i64 idx) := (blk_cell hk 1).trans rfl
  have k2 : (w.alloc (.cells #[.int .i64 cnt, .int .i64 idx, .slice A m c] 41)).cell? ⟨w.heap.size, 2, none⟩ = some (.slice A m c) := (blk_cell hk 2).trans rfl
  have HB := Lib.hid (below_alloc (Below.refl w.heap.size w) (.cells #[.int .i64 cnt, .int .i64 idx, .slice A m c] 41))
  unfold bV
  by_cases hbad : cnt < 1 ∨ 65536 < cnt ∨ idx < 0 ∨ cnt ≤ idx
  · have hv : brightP cnt idx m = 5 := if_pos hbad
    clear HD
    rw [hv]
    clear hv
    go_enter Tryd.func37, Tryd.ntmps37
    go_wp2_with fail
    all_goals go_ret
    all_goals exact ⟨rfl, HB.out⟩
  · have f0 : ¬ cnt < 1 := by omega
    have f1 : ¬ 65536 < cnt := by omega
    have f2 : ¬ idx < 0 := by omega
    have f3 : ¬ cnt ≤ idx := by omega
    have hv0 : brightP cnt idx m = if m ≠ depthP cnt.toNat then 3 else 0 := if_neg hbad
    obtain ⟨D, hD⟩ : ∃ D, depthP cnt.toNat = D := ⟨_, rfl⟩
    rw [hD] at HD hv0
    clear hD hbad
    by_cases hmd : m = D
    · have hv : brightP cnt idx m = 0 := by rw [hv0, if_neg (by simpa using hmd)]
      subst hmd
      clear hv0
      rw [hv]
      clear hv
      go_enter Tryd.func37, Tryd.ntmps37
      go_wp2_with fail
      obtain ⟨W, hW⟩ : ∃ W, w.alloc (.cells #[.int .i64 cnt, .int .i64 idx, .slice A m c] 41) = W := ⟨_, rfl⟩
      rw [hW] at k0 k2 HB ⊢
      have HB1 := Lib.hid (below_drew HB.out)
      have hHeld : W.drew.cell? ⟨w.heap.size, 0, none⟩ = some (.int .i64 cnt) ∧ W.drew.cell? ⟨w.heap.size, 2, none⟩ = some (.slice A m c) := ⟨k0, k2⟩
      have HH := Lib.hid hHeld
      clear k0 k1 k2 hk hW
      refine wp_region_held (S := fun u => u.cell? ⟨w.heap.size, 0, none⟩ = some (.int .i64 cnt) ∧ u.cell? ⟨w.heap.size, 2, none⟩ = some (.slice A m c)) (by kernel_rfl) ?_
      change wpAnyH _ _ _ _ _ _ _ _ (World.drew _)
      refine wpAnyH_take (i := 0) (oi := ({ dst := some 25, op := Op.fieldAddr 41 (Operand.tmp 1) 2, type := 0, pos := "branch.go:37", after := #[], guard := none } : Oper)) (v := .pointer (some ⟨w.heap.size, 2, none⟩)) rfl (by kernel_rfl) (by kernel_rfl) (by kernel_rfl) (fun _ _ _ h => h) (Or.inl ⟨by rfl, fun w hSw => by go_simp⟩) hHeld ?_
      simp only [Act.put, List.setIfInBounds_toArray, List.set_cons_zero, List.set_cons_succ]
      refine wpAnyH_take (i := 1) (oi := ({ dst := some 26, op := Op.load 22 (Operand.tmp 25), type := 22, pos := "branch.go:37", after := #[{ on := 0, ground := Ground.data }], guard := none } : Oper)) (v := .slice A m c) rfl (by kernel_rfl) (by kernel_rfl) (by kernel_rfl) (fun _ _ _ h => h) (Or.inl ⟨by rfl, fun w hSw => by obtain ⟨z0, z2⟩ := hSw; go_simp⟩) hHeld ?_
      simp only [Act.put, List.setIfInBounds_toArray, List.set_cons_zero, List.set_cons_succ]
      refine wpAnyH_take (i := 2) (oi := ({ dst := some 27, op := Op.call { callee := Callee.builtin Builtin.len, args := #[Operand.tmp 26], argTypes := #[22] }, type := 3, pos := "branch.go:37", after := #[{ on := 1, ground := Ground.data }], guard := none } : Oper)) (v := .int .i64 (m : Int)) rfl (by kernel_rfl) (by kernel_rfl) (by kernel_rfl) (fun _ _ _ h => h) (Or.inl ⟨by rfl, fun w hSw => by go_simp⟩) hHeld ?_
      simp only [Act.put, List.setIfInBounds_toArray, List.set_cons_zero, List.set_cons_succ]
      refine wpAnyH_take (i := 3) (oi := ({ dst := some 28, op := Op.fieldAddr 41 (Operand.tmp 1) 0, type := 0, pos := "branch.go:37", after := #[], guard := none } : Oper)) (v := .pointer (some ⟨w.heap.size, 0, none⟩)) rfl (by kernel_rfl) (by kernel_rfl) (by kernel_rfl) (fun _ _ _ h => h) (Or.inl ⟨by rfl, fun w hSw => by go_simp⟩) hHeld ?_
      simp only [Act.put, List.setIfInBounds_toArray, List.set_cons_zero, List.set_cons_succ]
      refine wpAnyH_take (i := 4) (oi := ({ dst := some 29, op := Op.load 3 (Operand.tmp 28), type := 3, pos := "branch.go:37", after := #[{ on := 3, ground := Ground.data }], guard := none } : Oper)) (v := .int .i64 cnt) rfl (by kernel_rfl) (by kernel_rfl) (by kernel_rfl) (fun _ _ _ h => h) (Or.inl ⟨by rfl, fun w hSw => by obtain ⟨z0, z2⟩ := hSw; go_simp⟩) hHeld ?_
      simp only [Act.put, List.setIfInBounds_toArray, List.set_cons_zero, List.set_cons_succ]
      refine wpAnyH_ready (rs := [5]) (by kernel_rfl) (by simp) ?_
      refine AllReadyH.cons (o := ({ dst := some 30, op := Op.call { callee := Callee.value (Operand.func 28), args := #[Operand.tmp 29], argTypes := #[3] }, type := 3, pos := "branch.go:37", after := #[{ on := 4, ground := Ground.data }], guard := none } : Oper)) rfl (fun K hK => ?_) AllReadyH.nil
      go_simp
      (with_reducible refine (HD.out _).mono ?_)
      rintro e w3 ⟨rfl, rfl⟩
      refine hK.out _ _ (HH.out) (fun hHeld => ?_)
      clear hK K
      try simp only [Act.put, List.setIfInBounds_toArray, List.set_cons_zero, List.set_cons_succ]
      refine wpAnyH_take (i := 6) (oi := ({ dst := some 31, op := Op.binOp BinOp.neq 3 (Operand.tmp 27) (Operand.tmp 30) 3, type := 4, pos := "branch.go:37", after := #[{ on := 2, ground := Ground.data }, { on := 5, ground := Ground.data }], guard := none } : Oper)) (v := .bool false) rfl (by kernel_rfl) (by kernel_rfl) (by kernel_rfl) (fun _ _ _ h => h) (Or.inl ⟨by rfl, fun w hSw => by go_simp⟩) hHeld ?_
      simp only [Act.put, List.setIfInBounds_toArray, List.set_cons_zero, List.set_cons_succ]
      refine wpAnyH_take (i := 7) (oi := ({ dst := some 24, op := Op.assign (Operand.tmp 31), type := 4, pos := "branch.go:37", after := #[{ on := 6, ground := Ground.data }, { on := 5, ground := Ground.chain }], guard := none } : Oper)) (v := .bool false) rfl (by kernel_rfl) (by kernel_rfl) (by kernel_rfl) (fun _ _ _ h => h) (Or.inl ⟨by rfl, fun w hSw => by go_simp⟩) hHeld ?_
      simp only [Act.put, List.setIfInBounds_toArray, List.set_cons_zero, List.set_cons_succ]
      refine wpAnyH_done (by kernel_rfl) ?_ _
      clear hHeld
      go_wp2_with fail
      go_ret
      exact ⟨rfl, HB1.out⟩
    · have hv : brightP cnt idx m = 3 := by rw [hv0, if_pos hmd]
      have hmi : ¬ (m : Int) = (D : Int) := by omega
      clear hv0
      rw [hv]
      clear hv
      go_enter Tryd.func37, Tryd.ntmps37
      go_wp2_with fail
      obtain ⟨W, hW⟩ : ∃ W, w.alloc (.cells #[.int .i64 cnt, .int .i64 idx, .slice A m c] 41) = W := ⟨_, rfl⟩
      rw [hW] at k0 k2 HB ⊢
      have HB1 := Lib.hid (below_drew HB.out)
      have hHeld : W.drew.cell? ⟨w.heap.size, 0, none⟩ = some (.int .i64 cnt) ∧ W.drew.cell? ⟨w.heap.size, 2, none⟩ = some (.slice A m c) := ⟨k0, k2⟩
      have HH := Lib.hid hHeld
      clear k0 k1 k2 hk hW
      refine wp_region_held (S := fun u => u.cell? ⟨w.heap.size, 0, none⟩ = some (.int .i64 cnt) ∧ u.cell? ⟨w.heap.size, 2, none⟩ = some (.slice A m c)) (by kernel_rfl) ?_
      change wpAnyH _ _ _ _ _ _ _ _ (World.drew _)
      refine wpAnyH_take (i := 0) (oi := ({ dst := some 25, op := Op.fieldAddr 41 (Operand.tmp 1) 2, type := 0, pos := "branch.go:37", after := #[], guard := none } : Oper)) (v := .pointer (some ⟨w.heap.size, 2, none⟩)) rfl (by kernel_rfl) (by kernel_rfl) (by kernel_rfl) (fun _ _ _ h => h) (Or.inl ⟨by rfl, fun w hSw => by go_simp⟩) hHeld ?_
      simp only [Act.put, List.setIfInBounds_toArray, List.set_cons_zero, List.set_cons_succ]
      refine wpAnyH_take (i := 1) (oi := ({ dst := some 26, op := Op.load 22 (Operand.tmp 25), type := 22, pos := "branch.go:37", after := #[{ on := 0, ground := Ground.data }], guard := none } : Oper)) (v := .slice A m c) rfl (by kernel_rfl) (by kernel_rfl) (by kernel_rfl) (fun _ _ _ h => h) (Or.inl ⟨by rfl, fun w hSw => by obtain ⟨z0, z2⟩ := hSw; go_simp⟩) hHeld ?_
      simp only [Act.put, List.setIfInBounds_toArray, List.set_cons_zero, List.set_cons_succ]
      refine wpAnyH_take (i := 2) (oi := ({ dst := some 27, op := Op.call { callee := Callee.builtin Builtin.len, args := #[Operand.tmp 26], argTypes := #[22] }, type := 3, pos := "branch.go:37", after := #[{ on := 1, ground := Ground.data }], guard := none } : Oper)) (v := .int .i64 (m : Int)) rfl (by kernel_rfl) (by kernel_rfl) (by kernel_rfl) (fun _ _ _ h => h) (Or.inl ⟨by rfl, fun w hSw => by go_simp⟩) hHeld ?_
      simp only [Act.put, List.setIfInBounds_toArray, List.set_cons_zero, List.set_cons_succ]
      refine wpAnyH_take (i := 3) (oi := ({ dst := some 28, op := Op.fieldAddr 41 (Operand.tmp 1) 0, type := 0, pos := "branch.go:37", after := #[], guard := none } : Oper)) (v := .pointer (some ⟨w.heap.size, 0, none⟩)) rfl (by kernel_rfl) (by kernel_rfl) (by kernel_rfl) (fun _ _ _ h => h) (Or.inl ⟨by rfl, fun w hSw => by go_simp⟩) hHeld ?_
      simp only [Act.put, List.setIfInBounds_toArray, List.set_cons_zero, List.set_cons_succ]
      refine wpAnyH_take (i := 4) (oi := ({ dst := some 29, op := Op.load 3 (Operand.tmp 28), type := 3, pos := "branch.go:37", after := #[{ on := 3, ground := Ground.data }], guard := none } : Oper)) (v := .int .i64 cnt) rfl (by kernel_rfl) (by kernel_rfl) (by kernel_rfl) (fun _ _ _ h => h) (Or.inl ⟨by rfl, fun w hSw => by obtain ⟨z0, z2⟩ := hSw; go_simp⟩) hHeld ?_
      simp only [Act.put, List.setIfInBounds_toArray, List.set_cons_zero, List.set_cons_succ]
      refine wpAnyH_ready (rs := [5]) (by kernel_rfl) (by simp) ?_
      refine AllReadyH.cons (o := ({ dst := some 30, op := Op.call { callee := Callee.value (Operand.func 28), args := #[Operand.tmp 29], argTypes := #[3] }, type := 3, pos := "branch.go:37", after := #[{ on := 4, ground := Ground.data }], guard := none } : Oper)) rfl (fun K hK => ?_) AllReadyH.nil
      go_simp
      (with_reducible refine (HD.out _).mono ?_)
      rintro e w3 ⟨rfl, rfl⟩
      refine hK.out _ _ (HH.out) (fun hHeld => ?_)
      clear hK K
      try simp only [Act.put, List.setIfInBounds_toArray, List.set_cons_zero, List.set_cons_succ]
      refine wpAnyH_take (i := 6) (oi := ({ dst := some 31, op := Op.binOp BinOp.neq 3 (Operand.tmp 27) (Operand.tmp 30) 3, type := 4, pos := "branch.go:37", after := #[{ on := 2, ground := Ground.data }, { on := 5, ground := Ground.data }], guard := none } : Oper)) (v := .bool true) rfl (by kernel_rfl) (by kernel_rfl) (by kernel_rfl) (fun _ _ _ h => h) (Or.inl ⟨by rfl, fun w hSw => by go_simp⟩) hHeld ?_
      simp only [Act.put, List.setIfInBounds_toArray, List.set_cons_zero, List.set_cons_succ]
      refine wpAnyH_take (i := 7) (oi := ({ dst := some 24, op := Op.assign (Operand.tmp 31), type := 4, pos := "branch.go:37", after := #[{ on := 6, ground := Ground.data }, { on := 5, ground := Ground.chain }], guard := none } : Oper)) (v := .bool true) rfl (by kernel_rfl) (by kernel_rfl) (by kernel_rfl) (fun _ _ _ h => h) (Or.inl ⟨by rfl, fun w hSw => by go_simp⟩) hHeld ?_
      simp only [Act.put, List.setIfInBounds_toArray, List.set_cons_zero, List.set_cons_succ]
      refine wpAnyH_done (by kernel_rfl) ?_ _
      clear hHeld
      go_wp2_with fail
      go_ret
      exact ⟨rfl, HB1.out⟩
end Go.Proofs.YtlmcdkjobdcflaaDoor.Hand

/- From a leaf up, by a branch: the plain form, and walked. -/
namespace Go.Proofs.YtlmcdkjobdcflaaDoor.Hand
open Go Go.RowKit Go.Proofs.YtlmcdkjobdcflaaDoor.Plain Go.Proofs.YtlmcdkjobdcflaaDoor.PAll Go.Proofs.YtlmcdkjobdcflaaDoorW.PrintWords Go.Proofs.YtlmcdkjobdcflaaDoorW.PrintLast Go.Proofs.YtlmcdkjobdcflaaDoorW.PrintMore
set_option linter.unusedVariables false
set_option linter.unusedSimpArgs false
set_option maxRecDepth 100000
attribute [local go_sem ↓] Go.wp_at_zero Go.wp_at_succ
theorem run_load_i64 (w : World) (a : Addr) (v : Value) (h : w.cell? a = some v) : (loadVar 3 a).run Tryd.prog w = .ok v w := by
  go_simp
theorem run_load_hs (w : World) (a : Addr) (v : Value) (h : w.cell? a = some v) : (loadVar 22 a).run Tryd.prog w = .ok v w := by
  go_simp
attribute [-go_sem] loadVar storeVar Instr.buildSlice
/-- The way up: none where a place that may not be doubled is, or one that must be is not. -/
def upF : List (List Int) → Nat → Nat → List Int → Option (List Int)
  | [], _, _, leaf => some leaf
  | h :: hs, p, n, leaf => if ((p % 2 == 0 && p == n - 1) != (h == leaf)) = true then none else upF hs (p / 2) ((n + 1) / 2) (if p % 2 = 0 then twiceP (leaf ++ h) else twiceP (h ++ leaf))
def upP (cnt idx : Int) (xs : List (List Int)) (leaf : List Int) : List Int × Int :=
  if brightP cnt idx xs.length ≠ 0 then (z32h, brightP cnt idx xs.length) else match upF xs idx.toNat cnt.toNat leaf with
    | none => (z32h, 15)
    | some x => (x, 0)
theorem upF_cons {xs : List (List Int)} {k : Nat} (h : k < xs.length) (p n : Nat) (leaf : List Int) : upF (xs.drop k) p n leaf = if ((p % 2 == 0 && p == n - 1) != (rdH xs k == leaf)) = true then none else upF (xs.drop (k + 1)) (p / 2) ((n + 1) / 2) (if p % 2 = 0 then twiceP (leaf ++ rdH xs k) else twiceP (rdH xs k ++ leaf)) := by
  rw [List.drop_eq_getElem_cons h, upF, rdH_eq h]
theorem upF_nil {xs : List (List Int)} {k : Nat} (h : xs.length ≤ k) (p n : Nat) (leaf : List Int) : upF (xs.drop k) p n leaf = some leaf := by
  rw [List.drop_of_length_le h, upF]
theorem infoB : (Tryd.prog.info? 41).map (·.size) = some 3 := by kernel_rfl
theorem built_hash0 : Tryd.prog.built 25 [] = some (nums .u8 z32h).toArray := by kernel_rfl
theorem alloc3 (w : World) (a b c : Obj) : ((((w.alloc a).alloc b).alloc c).heap[w.heap.size]? = some a ∧ (((w.alloc a).alloc b).alloc c).heap[w.heap.size + 1]? = some b ∧ (((w.alloc a).alloc b).alloc c).heap[w.heap.size + 1 + 1]? = some c) := by
  have s1 : ((w.alloc a).alloc b).heap.size = w.heap.size + 2 := by
    show ((w.heap.push a).push b).size = _
    simp
  refine ⟨blk_alloc (heap_alloc2_old w a b) c, blk_alloc (heap_alloc2_new w a b) c, ?_⟩
  have h := heap_alloc_new ((w.alloc a).alloc b) c
  rwa [s1] at h
set_option maxHeartbeats 4000000 in
theorem up_calls (cnt idx : Int) (A : Option Addr) (m c : Nat) (xs : List (List Int)) (leaf : List Int) (w : World) (hm : m = xs.length) (hr : Kd.C kH w A m xs) (hc : m ≤ c) (hH : Hs xs) (hl32 : leaf.length = 32) (hlb : ∀ x ∈ leaf, 0 ≤ x ∧ x < 256) (hK : KT w)
    (h0 : -9223372036854775808 ≤ cnt) (h1 : cnt ≤ 9223372036854775807) :
    Calls Tryd.prog 34 #[bV cnt idx A m c, .agg (nums .u8 leaf).toArray] w fun e w' => e = .returned (.tuple #[.agg (nums .u8 (upP cnt idx xs leaf).1).toArray, .int .i64 (upP cnt idx xs leaf).2]) ∧ Below w.heap.size w w' := by
  have hmx := Kd.C_max hr
  have HRI := Lib.hid (fun u => bright_calls cnt idx A m c u hmx h0 h1)
  have HHZ := (zero_of_info infoHash).1
  have hLl : (nums .u8 leaf).length = 32 := by rw [nums_len]; exact hl32
  have hL1 := nums_one .u8 leaf
  have hZ1 := nums_one .u8 z32h
  obtain ⟨L, hL⟩ : ∃ L, nums .u8 leaf = L := ⟨_, rfl⟩
  rw [hL] at hLl hL1 ⊢
  obtain ⟨Z, hZ⟩ : ∃ Z, nums .u8 z32h = Z := ⟨_, rfl⟩
  have hZl : Z.length = 32 := by rw [← hZ]; rfl
  have HHZ2 : ∀ u : World, (zeroValue 25).run Tryd.prog u = .ok (.agg Z.toArray) u := by rw [← hZ]; exact HHZ
  obtain ⟨hA0, hL0, hZ0⟩ := alloc3 w (.cells #[.int .i64 cnt, .int .i64 idx, .slice A m c] 41) (.cells L.toArray 25) (.cells Z.toArray 25)
  have HB0 := Lib.hid (below_alloc (below_alloc (below_alloc (Below.refl w.heap.size w) (.cells #[.int .i64 cnt, .int .i64 idx, .slice A m c] 41)) (.cells L.toArray 25)) (.cells Z.toArray 25))
  have HUB := Lib.hid Tryd.underlying41
  have HU := Lib.hid Tryd.underlying25
  have HIZ := Lib.hid (show (Tryd.prog.info? 25).map (·.size) = some Z.toArray.size ∧ Z.toArray.all (·.oneCell') = true from ⟨by rw [List.size_toArray, hZl]; exact (zero_of_info infoHash).2, all_oneCell_toArray (by rw [← hZ]; exact hZ1)⟩)
  have HBU := Lib.hid (show Tryd.prog.built 25 [] = some Z.toArray by rw [← hZ]; exact built_hash0)
  have HM := Lib.hid hm
  have HR := Lib.hid hr
  have HHX := Lib.hid hH
  have HK := Lib.hid hK
  have HLF := Lib.hid (And.intro hl32 (And.intro hlb hL))
  have HZZ := Lib.hid (And.intro hZ hZl)
  unfold bV at HRI ⊢
  obtain ⟨up, hup⟩ : ∃ u, upP cnt idx xs leaf = u := ⟨_, rfl⟩
  rw [hup]
  have HUP := Lib.hid hup
  obtain ⟨e0, he0⟩ : ∃ e, brightP cnt idx m = e := ⟨_, rfl⟩
  have HE0 := Lib.hid he0
  rw [he0] at HRI
  obtain ⟨W0, hW0⟩ : ∃ W0, ((w.alloc (.cells #[.int .i64 cnt, .int .i64 idx, .slice A m c] 41)).alloc (.cells L.toArray 25)).alloc (.cells Z.toArray 25) = W0 := ⟨_, rfl⟩
  rw [hW0] at hA0 hL0 hZ0 HB0
  have HA0 := Lib.hid hA0
  have HLZ0 := Lib.hid (And.intro hL0 hZ0)
  have HW0 := Lib.hid hW0
  clear HHZ hA0 hL0 hZ0 hm hr hH hK hl32 hlb hLl hL1 hZ1 hZ hL hZl hup he0 hW0
  by_cases hok : e0 = 0
  · subst hok
    have hgood : (1 ≤ cnt ∧ cnt ≤ 65536) ∧ (0 ≤ idx ∧ idx < cnt) := by
      have h := HE0.out
      unfold brightP at h
      by_cases hb : cnt < 1 ∨ 65536 < cnt ∨ idx < 0 ∨ cnt ≤ idx
      · rw [if_pos hb] at h
        exact absurd h (by decide)
      · omega
    obtain ⟨q, rfl⟩ : ∃ q : Nat, cnt = (q : Int) := ⟨cnt.toNat, by omega⟩
    obtain ⟨i, rfl⟩ : ∃ i : Nat, idx = (i : Int) := ⟨idx.toNat, by omega⟩
    have hval : up = match upF xs i q leaf with
      | none => (z32h, 15)
      | some x => (x, 0) := by
      rw [← HUP.out]
      unfold upP
      rw [← HM.out, HE0.out, if_neg (by decide), Int.toNat_natCast, Int.toNat_natCast]
    have HVAL := Lib.hid hval
    have HGD := Lib.hid hgood
    clear hval hgood h0 h1
    go_enter Tryd.func34, Tryd.ntmps34
    go_wp2_with ((with_reducible show wpList _ _ _ (Oper.mk _ (Op.load _ (.tmp 2)) _ _ _ _ :: _) _ _); rw [HW0.out]; (go_loud (refine wpList_load_row rfl 41 (.tmp 2) rfl w.heap.size rfl 41 #[.int .i64 (q : Int), .int .i64 (i : Int), .slice A m c] (0, 0) _ HA0.out HUB.out rfl infoB ?_)))
    refine (HRI.out _).mono ?_
    rintro e w1 ⟨rfl, hb1⟩
    have HB1 := Lib.hid (below_drew (HB0.out.trans (Below.mono hb1 HB0.out.size)))
    have hA1 : w1.drew.heap[w.heap.size]? = _ := (hb1.block _ (blk_lt HA0.out)).trans HA0.out
    have HL1 := Lib.hid (show w1.drew.heap[w.heap.size + 1]? = _ from (hb1.block _ (blk_lt HLZ0.out.1)).trans HLZ0.out.1)
    have HZ1 := Lib.hid (show w1.drew.heap[w.heap.size + 1 + 1]? = _ from (hb1.block _ (blk_lt HLZ0.out.2)).trans HLZ0.out.2)
    have hHeld : (loadVar 3 ⟨w.heap.size, 1, none⟩).run Tryd.prog w1.drew = .ok (.int .i64 (i : Int)) w1.drew ∧ (loadVar 3 ⟨w.heap.size, 0, none⟩).run Tryd.prog w1.drew = .ok (.int .i64 (q : Int)) w1.drew := ⟨run_load_i64 _ _ _ ((blk_cell hA1 1).trans rfl), run_load_i64 _ _ _ ((blk_cell hA1 0).trans rfl)⟩
    have HH2 := Lib.hid (run_load_hs _ _ _ ((blk_cell hA1 2).trans rfl : w1.drew.cell? ⟨w.heap.size, 2, none⟩ = some (.slice A m c)))
    clear hb1 hA1
    go_wp2_with fail
    refine wp_region_held (S := fun u => (loadVar 3 ⟨w.heap.size, 1, none⟩).run Tryd.prog u = .ok (.int .i64 (i : Int)) u ∧ (loadVar 3 ⟨w.heap.size, 0, none⟩).run Tryd.prog u = .ok (.int .i64 (q : Int)) u) (by kernel_rfl) ?_
    change wpAnyH _ _ _ _ _ _ _ _ (World.drew _)
    refine wpAnyH_take (i := 0) (oi := ({ dst := some 18, op := Op.fieldAddr 41 (Operand.tmp 2) 1, type := 0, pos := "branch.go:48", after := #[], guard := none } : Oper)) (v := .pointer (some ⟨w.heap.size, 1, none⟩)) rfl (by kernel_rfl) (by kernel_rfl) (by kernel_rfl) (fun _ _ _ h => h) (Or.inl ⟨by rfl, fun w hSw => by go_simp⟩) hHeld ?_
    simp only [Act.put, List.setIfInBounds_toArray, List.set_cons_zero, List.set_cons_succ]
    refine wpAnyH_take (i := 1) (oi := ({ dst := some 19, op := Op.load 3 (Operand.tmp 18), type := 3, pos := "branch.go:48", after := #[{ on := 0, ground := Ground.data }], guard := none } : Oper)) (v := .int .i64 (i : Int)) rfl (by kernel_rfl) (by kernel_rfl) (by kernel_rfl) (fun _ _ _ h => h) (Or.inl ⟨by rfl, fun w hSw => by obtain ⟨z0, z2⟩ := hSw; go_simp⟩) hHeld ?_
    simp only [Act.put, List.setIfInBounds_toArray, List.set_cons_zero, List.set_cons_succ]
    refine wpAnyH_take (i := 2) (oi := ({ dst := some 20, op := Op.fieldAddr 41 (Operand.tmp 2) 0, type := 0, pos := "branch.go:48", after := #[{ on := 4, ground := Ground.gcOnly Departure.lateStores }], guard := none } : Oper)) (v := .pointer (some ⟨w.heap.size, 0, none⟩)) rfl (by kernel_rfl) (by kernel_rfl) (by kernel_rfl) (fun _ _ _ h => h) (Or.inl ⟨by rfl, fun w hSw => by go_simp⟩) hHeld ?_
    simp only [Act.put, List.setIfInBounds_toArray, List.set_cons_zero, List.set_cons_succ]
    refine wpAnyH_take (i := 3) (oi := ({ dst := some 21, op := Op.load 3 (Operand.tmp 20), type := 3, pos := "branch.go:48", after := #[{ on := 2, ground := Ground.data }, { on := 4, ground := Ground.gcOnly Departure.lateStores }], guard := none } : Oper)) (v := .int .i64 (q : Int)) rfl (by kernel_rfl) (by kernel_rfl) (by kernel_rfl) (fun _ _ _ h => h) (Or.inl ⟨by rfl, fun w hSw => by obtain ⟨z0, z2⟩ := hSw; go_simp⟩) hHeld ?_
    simp only [Act.put, List.setIfInBounds_toArray, List.set_cons_zero, List.set_cons_succ]
    refine wpAnyH_take (i := 4) (oi := ({ dst := some 7, op := Op.assign (Operand.tmp 19), type := 3, pos := "branch.go:48", after := #[{ on := 1, ground := Ground.data }, { on := 0, ground := Ground.phase }, { on := 1, ground := Ground.phase }, { on := 2, ground := Ground.textOnly Departure.lateStores }, { on := 3, ground := Ground.textOnly Departure.lateStores }], guard := none } : Oper)) (v := .int .i64 (i : Int)) rfl (by kernel_rfl) (by kernel_rfl) (by kernel_rfl) (fun _ _ _ h => h) (Or.inl ⟨by rfl, fun w hSw => by go_simp⟩) hHeld ?_
    simp only [Act.put, List.setIfInBounds_toArray, List.set_cons_zero, List.set_cons_succ]
    refine wpAnyH_take (i := 5) (oi := ({ dst := some 8, op := Op.assign (Operand.tmp 21), type := 3, pos := "branch.go:48", after := #[{ on := 3, ground := Ground.data }, { on := 4, ground := Ground.chain }, { on := 0, ground := Ground.phase }, { on := 1, ground := Ground.phase }, { on := 2, ground := Ground.phase }, { on := 3, ground := Ground.phase }, { on := 4, ground := Ground.phase }], guard := none } : Oper)) (v := .int .i64 (q : Int)) rfl (by kernel_rfl) (by kernel_rfl) (by kernel_rfl) (fun _ _ _ h => h) (Or.inl ⟨by rfl, fun w hSw => by go_simp⟩) hHeld ?_
    simp only [Act.put, List.setIfInBounds_toArray, List.set_cons_zero, List.set_cons_succ]
    refine wpAnyH_done (by kernel_rfl) ?_ _
    clear hHeld
    obtain ⟨W2, hW2⟩ : ∃ W2, w1.drew = W2 := ⟨_, rfl⟩
    rw [hW2] at HB1 HL1 HZ1 HH2 ⊢
    have hh2 := HH2.out
    clear hW2
    go_wp2_with fail
    clear hh2 HH2
    go_loopw [7, 8, 25] (fun vp vn vk wr => ∃ (k p nn : Nat) (lf : List Int), vp = .int .i64 (p : Int) ∧ vn = .int .i64 (nn : Int) ∧ vk = .int .i64 (k : Int) ∧ Hid ((k ≤ m ∧ p ≤ 65536 ∧ 1 ≤ nn ∧ nn ≤ 65536) ∧ (lf.length = 32 ∧ ∀ x ∈ lf, 0 ≤ x ∧ x < 256) ∧ wr.heap[w.heap.size + 1]? = some (.cells (nums .u8 lf).toArray 25 (0, 0)) ∧ wr.heap[w.heap.size + 1 + 1]? = some (.cells Z.toArray 25 (0, 0)) ∧ Below w.heap.size w wr ∧ upF (xs.drop k) p nn lf = upF xs i q leaf)) (fun _ _ vk _ => m + 1 - (intOf vk).toNat)
    case atStart => exact ⟨0, i, q, leaf, rfl, rfl, rfl, Lib.hid ⟨⟨Nat.zero_le _, by have := HGD.out; omega, by have := HGD.out; omega, by have := HGD.out; omega⟩, ⟨HLF.out.1, HLF.out.2.1⟩, by rw [HLF.out.2.2]; exact HL1.out, HZ1.out, HB1.out, rfl⟩⟩
    case round =>
      obtain ⟨k, p, nn, lf, rfl, rfl, rfl, H⟩ := hrel
      obtain ⟨⟨hk, hp1, hn1, hn2⟩, hlf, hLa, hZa, hB, heq⟩ := H.out
      by_cases hlt : k < m
      · have hkx : k < xs.length := by rw [← HM.out]; exact hlt
        rw [upF_cons hkx] at heq
        have hhb := HHX.out.any k
        obtain ⟨b, o, rfl, hbl, hrg⟩ := C_hash (by rw [← HM.out]; exact HR.out) (by omega)
        have hrg1 := range_below hB hbl (hrg k hkx).1
        obtain ⟨hh, hhe⟩ : ∃ h, rdH xs k = h := ⟨_, rfl⟩
        rw [hhe] at heq hhb hrg1
        have HLB := Lib.hid hlf
        have HHB := Lib.hid hhb
        have hHl : (nums .u8 hh).length = 32 := by rw [nums_len]; exact hhb.1
        have hLl : (nums .u8 lf).length = 32 := by rw [nums_len]; exact hlf.1
        have hHo := nums_one .u8 hh
        have q0 := fun u => eqH hh lf hhb.1 hlf.1 u
        obtain ⟨HC, hHC⟩ : ∃ x, nums .u8 hh = x := ⟨_, rfl⟩
        obtain ⟨LC, hLC⟩ : ∃ x, nums .u8 lf = x := ⟨_, rfl⟩
        rw [hHC] at hHl hHo q0 hrg1
        rw [hLC] at hLl q0 hLa
        have HHB2 := Lib.hid hHC
        have HLB2 := Lib.hid hLC
        have HRG := Lib.hid hrg1
        have HIC := Lib.hid (show (Tryd.prog.info? 25).map (·.size) = some HC.length ∧ (Tryd.prog.info? 25).map (·.size) = some HC.toArray.size ∧ Z.toArray.size = HC.toArray.size ∧ HC.toArray.all (·.oneCell') = true from ⟨by rw [hHl]; exact (zero_of_info infoHash).2, by rw [List.size_toArray, hHl]; exact (zero_of_info infoHash).2, by rw [List.size_toArray, List.size_toArray, hHl, HZZ.out.2], all_oneCell_toArray hHo⟩)
        have HIL := Lib.hid (show (Tryd.prog.info? 25).map (·.size) = some LC.toArray.size ∧ LC.length = 32 from ⟨by rw [List.size_toArray, hLl]; exact (zero_of_info infoHash).2, hLl⟩)
        have HBA := Lib.hid (below_alloc hB (.cells HC.toArray 25))
        have HNA := Lib.hid (heap_alloc_new wr (.cells HC.toArray 25))
        have HLA := Lib.hid (blk_alloc hLa (.cells HC.toArray 25))
        have HZA := Lib.hid (blk_alloc hZa (.cells HC.toArray 25))
        have HEQ := Lib.hid heq
        have HNUM := Lib.hid (show (k < m ∧ p ≤ 65536 ∧ 1 ≤ nn ∧ nn ≤ 65536) ∧ m ≤ 9223372036854775807 from ⟨⟨hlt, hp1, hn1, hn2⟩, hmx⟩)
        have hwn : IntKind.i64.wrap ((nn : Int) - 1) = (nn : Int) - 1 := IntWalk.i64_in _ (by omega)
        have hwn2 : IntKind.i64.wrap ((nn : Int) + 1) = (nn : Int) + 1 := IntWalk.i64_in _ (by omega)
        have g5 : (0 : Int) ≤ (k : Int) := by omega
        have g6 : (k : Int) < (m : Int) := by omega
        clear hlf hhb hHl hLl hHo hHC hLC hrg1 hrg hhe hB hLa hZa heq hkx hbl H
        by_cases ev : p % 2 = 0
        · have e1 : (p : Int) % 2 = 0 := by omega
          have bev : (p % 2 == 0) = true := by simpa using ev
          by_cases la : p = nn - 1
          · have e2 : ((p : Int) == (nn : Int) - 1) = true := by rw [beq_iff_eq]; omega
            have bla : (p == nn - 1) = true := by simpa using la
            clear la
            by_cases sm : (hh == lf) = true
            · rw [sm] at q0
              have HEQ2 := Lib.hid (show upF (xs.drop (k + 1)) (p / 2) ((nn + 1) / 2) (twiceP [lf, hh].flatten) = upF xs i q leaf from by
                have h := HEQ.out
                rw [if_neg (by simp [bev, bla, sm]), if_pos ev] at h
                simpa using h)
              have HYY := Lib.hid (show ∀ ys ∈ [lf, hh], ∀ x ∈ ys, 0 ≤ x ∧ x < 256 from fun ys hy => by
                simp only [List.mem_cons, List.not_mem_nil, or_false] at hy
                rcases hy with rfl | rfl
                · exact HLB.out.2
                · exact HHB.out.2)
              have HYL := Lib.hid (show [lf, hh].flatten.length ≤ 900000 by simp [HLB.out.1, HHB.out.1])
              obtain ⟨tw, htw⟩ : ∃ x, twiceP ([lf, hh].flatten) = x := ⟨_, rfl⟩
              have HTL := Lib.hid (show tw.length = 32 ∧ ∀ x ∈ tw, 0 ≤ x ∧ x < 256 by rw [← htw]; exact ⟨twiceP_len _, twiceP_bytes _⟩)
              have HTI := Lib.hid (show (Tryd.prog.info? 25).map (·.size) = some (nums .u8 tw).toArray.size ∧ LC.toArray.size = (nums .u8 tw).toArray.size ∧ (nums .u8 tw).toArray.all (·.oneCell') = true from ⟨by rw [List.size_toArray, nums_len, HTL.out.1]; exact (zero_of_info infoHash).2, by rw [List.size_toArray, List.size_toArray, nums_len, HTL.out.1, HIL.out.2], all_oneCell_toArray (nums_one _ _)⟩)
              rw [htw] at HEQ2
              obtain ⟨Wb, hWb⟩ : ∃ W, ((wr.alloc (.cells HC.toArray 25)).alloc (.cells #[.slice (some ⟨(w.heap.size + 1), 0, none⟩) 32 32, .slice (some ⟨wr.heap.size, 0, none⟩) 32 32] 33)).drew = W := ⟨_, rfl⟩
              have HWb := Lib.hid hWb
              have HBb := Lib.hid (show Below w.heap.size w Wb by rw [← hWb]; exact below_drew (below_alloc HBA.out _))
              have HNb := Lib.hid (show Wb.heap[w.heap.size + 1]? = some (.cells LC.toArray 25 (0, 0)) ∧ Wb.heap[w.heap.size + 1 + 1]? = some (.cells Z.toArray 25 (0, 0)) from by rw [← hWb]; exact ⟨blk_alloc HLA.out _, blk_alloc HZA.out _⟩)
              have HTW := Lib.hid (show Calls Tryd.prog 50 #[.slice (some ⟨wr.heap.size + 1, 0, none⟩) 2 2] Wb fun e w' => e = .returned (.agg (nums .u8 tw).toArray) ∧ Below Wb.heap.size Wb w' from by
                rw [← htw]
                have e1 := C_of_block (pre := []) (post := []) (k := .u8) (ys := lf) (o := 0) (t := 25) (fr := (0, 0)) (w := wr.alloc (.cells HC.toArray 25)) (b := w.heap.size + 1) (by rw [List.nil_append, List.append_nil, HLB2.out]; exact HLA.out) rfl (by rw [HLB.out.1]; decide)
                have e2 := C_of_block (pre := []) (post := []) (k := .u8) (ys := hh) (o := 0) (t := 25) (fr := (0, 0)) (w := wr.alloc (.cells HC.toArray 25)) (b := wr.heap.size) (by rw [List.nil_append, List.append_nil, HHB2.out]; exact HNA.out) rfl (by rw [HHB.out.1]; decide)
                have e3 := C_row2 (W := ((wr.alloc (.cells HC.toArray 25)).alloc (.cells #[.slice (some ⟨(w.heap.size + 1), 0, none⟩) lf.length 32, .slice (some ⟨wr.heap.size, 0, none⟩) hh.length 32] 33)).drew) (heap_alloc2_new wr _ _) (by rw [HLB.out.1]; exact Nat.le_refl _) (Kd.C_drew (Kd.C_alloc e1 _)) (by rw [HHB.out.1]; exact Nat.le_refl _) (Kd.C_drew (Kd.C_alloc e2 _))
                rw [HLB.out.1, HHB.out.1, hWb] at e3
                exact twice_calls _ 2 2 [lf, hh] Wb rfl e3 HYY.out HYL.out (by decide) (HK.out.below HBb.out (Nat.le_refl _)))
              have hbt := fun u => run_build2 (w.heap.size + 1) wr.heap.size u
              have hs := fun W g => slice_allH W g
              clear htw hWb HYY HYL
              go_wp2_with (first
                | ((with_reducible show wpList _ _ _ (Oper.mk _ (Op.load _ (.tmp 27)) _ _ _ _ :: _) _ _); (go_loud (refine wpList_load_mid rfl 25 (.tmp 27) rfl b (o + k * 32) rfl HC _ HRG.out HU.out rfl HIC.out.1 ?_)))
                | ((with_reducible show wpList _ _ _ (Oper.mk _ (Op.store _ (.tmp 10) _) _ _ _ _ :: _) _ _); (go_loud (refine wpl_store_new rfl 25 (.tmp 10) (.tmp 28) rfl Z.toArray HC.toArray rfl rfl HIC.out.2.1 HIC.out.2.2.1 HIC.out.2.2.2 ?_)))
                | ((with_reducible show wpList _ _ _ (Oper.mk _ (Op.load _ (.tmp 10)) _ _ _ _ :: _) _ _); (go_loud (refine wpList_load_row rfl 25 (.tmp 10) rfl wr.heap.size rfl 25 HC.toArray (0, 0) _ HNA.out HU.out rfl HIC.out.2.1 ?_)))
                | ((with_reducible show wpList _ _ _ (Oper.mk _ (Op.load _ (.tmp 3)) _ _ _ _ :: _) _ _); (go_loud (refine wpList_load_row rfl 25 (.tmp 3) rfl (w.heap.size + 1) rfl 25 LC.toArray (0, 0) _ HLA.out HU.out rfl HIL.out.1 ?_))))
              clear q0
              have hHeld : True := trivial
              refine wp_region_held (S := fun _ => True) (by kernel_rfl) ?_
              change wpAnyH _ _ _ _ _ _ _ _ (World.drew _)
              refine wpAnyH_take (i := 0) (oi := ({ dst := some 47, op := Op.slice 25 (Operand.tmp 3) none none none, type := 33, pos := "branch.go:55", after := #[], guard := none } : Oper)) (v := .slice (some ⟨(w.heap.size + 1), 0, none⟩) 32 32) rfl (by kernel_rfl) (by kernel_rfl) (by kernel_rfl) (fun _ _ _ h => h) (Or.inl ⟨by rfl, fun w hSw => by go_simp⟩) hHeld ?_
              simp only [Act.put, List.setIfInBounds_toArray, List.set_cons_zero, List.set_cons_succ]
              refine wpAnyH_take (i := 1) (oi := ({ dst := some 48, op := Op.slice 25 (Operand.tmp 10) none none none, type := 33, pos := "branch.go:55", after := #[], guard := none } : Oper)) (v := .slice (some ⟨wr.heap.size, 0, none⟩) 32 32) rfl (by kernel_rfl) (by kernel_rfl) (by kernel_rfl) (fun _ _ _ h => h) (Or.inl ⟨by rfl, fun w hSw => by go_simp⟩) hHeld ?_
              simp only [Act.put, List.setIfInBounds_toArray, List.set_cons_zero, List.set_cons_succ]
              refine wpAnyH_ready (rs := [2]) (by kernel_rfl) (by simp) ?_
              refine AllReadyH.cons (o := ({ dst := some 49, op := Op.buildSlice 62 2 #[(0, Operand.tmp 47), (1, Operand.tmp 48)], type := 62, pos := "branch.go:55", after := #[{ on := 0, ground := Ground.data }, { on := 1, ground := Ground.data }], guard := none } : Oper)) rfl (fun K hK => ?_) AllReadyH.nil
              go_simp
              rw [HWb.out]
              refine hK.out _ _ (trivial) (fun hHeld => ?_)
              clear hK K
              try simp only [Act.put, List.setIfInBounds_toArray, List.set_cons_zero, List.set_cons_succ]
              refine wpAnyH_ready (rs := [3]) (by kernel_rfl) (by simp) ?_
              refine AllReadyH.cons (o := ({ dst := some 50, op := Op.call { callee := Callee.value (Operand.func 50), args := #[Operand.tmp 49], argTypes := #[62] }, type := 25, pos := "branch.go:55", after := #[{ on := 2, ground := Ground.data }], guard := none } : Oper)) rfl (fun K hK => ?_) AllReadyH.nil
              go_simp
              (with_reducible refine HTW.out.mono ?_)
              rintro e w3 ⟨rfl, hb3⟩
              have HB3 := Lib.hid hb3
              clear hb3
              go_wp2_with fail
              refine hK.out _ _ (trivial) (fun hHeld => ?_)
              clear hK K
              try simp only [Act.put, List.setIfInBounds_toArray, List.set_cons_zero, List.set_cons_succ]
              have HL3 := Lib.hid ((HB3.out.block _ (blk_lt HNb.out.1)).trans HNb.out.1)
              have HZ3 := Lib.hid ((HB3.out.block _ (blk_lt HNb.out.2)).trans HNb.out.2)
              have HBW3 := Lib.hid (HBb.out.trans (Below.mono HB3.out HBb.out.size))
              refine wpAnyH_ready (rs := [4]) (by kernel_rfl) (by simp) ?_
              refine AllReadyH.cons (o := ({ dst := none, op := Op.store 25 (Operand.tmp 3) (Operand.tmp 50), type := 0, pos := "branch.go:55", after := #[{ on := 3, ground := Ground.data }, { on := 3, ground := Ground.chain }, { on := 0, ground := Ground.phase }, { on := 1, ground := Ground.phase }, { on := 2, ground := Ground.phase }, { on := 3, ground := Ground.phase }], guard := none } : Oper)) rfl (fun K hK => ?_) AllReadyH.nil
              rw [if_pos (by rfl)]
              refine wp_store_row 25 (.tmp 3) (.tmp 50) rfl (w.heap.size + 1) (nums .u8 tw).toArray (by rfl) (by rfl) 25 LC.toArray HL3.out HTI.out.1 HTI.out.2.1 HTI.out.2.2 ?_
              refine hK.out _ _ (trivial) (fun hHeld => ?_)
              clear hK K
              try simp only [Act.put, List.setIfInBounds_toArray, List.set_cons_zero, List.set_cons_succ]
              refine wpAnyH_done (by kernel_rfl) ?_ _
              clear hHeld hbt hs
              have HNEW := Lib.hid (show (w3.setRow (w.heap.size + 1) (nums .u8 tw).toArray).heap[w.heap.size + 1]? = some (.cells (nums .u8 tw).toArray 25 (0, 0)) ∧ (w3.setRow (w.heap.size + 1) (nums .u8 tw).toArray).heap[w.heap.size + 1 + 1]? = some (.cells Z.toArray 25 (0, 0)) ∧ Below w.heap.size w (w3.setRow (w.heap.size + 1) (nums .u8 tw).toArray) from ⟨setRow_heap _ _ _ _ _ _ HL3.out, (setRow_other _ _ _ _ (by omega)).trans HZ3.out, below_setRow HBW3.out (by omega) _⟩)
              obtain ⟨W5, hW5⟩ : ∃ W, w3.setRow (w.heap.size + 1) (nums .u8 tw).toArray = W := ⟨_, rfl⟩
              rw [hW5] at HNEW ⊢
              clear hW5
              have hwk : wrap64 ((k : Int) + 1) = ((k + 1 : Nat) : Int) := wrap64_succ (by have := HNUM.out; omega)
              go_wp2_with fail
              try rw [hwk]
              go_roundw
              case rel => exact ⟨k + 1, p / 2, (nn + 1) / 2, tw, by congr 1 <;> omega, by congr 1 <;> omega, by first | rfl | (congr 1 <;> omega), Lib.hid ⟨by have := HNUM.out; omega, HTL.out, HNEW.out.1, HNEW.out.2.1, HNEW.out.2.2, HEQ2.out⟩⟩
              case measure => have hq := HNUM.out; simp only [intOf]; omega
            · have bsm := Bool.eq_false_iff.2 sm
              rw [bsm] at q0
              have HNONE := Lib.hid (show up = (z32h, 15) from by
                have h := HEQ.out
                rw [if_pos (by simp [bev, bla, bsm])] at h
                have h2 := HVAL.out
                rw [← h] at h2
                exact h2)
              go_wp2_with (first
                | ((with_reducible show wpList _ _ _ (Oper.mk _ (Op.load _ (.tmp 27)) _ _ _ _ :: _) _ _); (go_loud (refine wpList_load_mid rfl 25 (.tmp 27) rfl b (o + k * 32) rfl HC _ HRG.out HU.out rfl HIC.out.1 ?_)))
                | ((with_reducible show wpList _ _ _ (Oper.mk _ (Op.store _ (.tmp 10) _) _ _ _ _ :: _) _ _); (go_loud (refine wpl_store_new rfl 25 (.tmp 10) (.tmp 28) rfl Z.toArray HC.toArray rfl rfl HIC.out.2.1 HIC.out.2.2.1 HIC.out.2.2.2 ?_)))
                | ((with_reducible show wpList _ _ _ (Oper.mk _ (Op.load _ (.tmp 10)) _ _ _ _ :: _) _ _); (go_loud (refine wpList_load_row rfl 25 (.tmp 10) rfl wr.heap.size rfl 25 HC.toArray (0, 0) _ HNA.out HU.out rfl HIC.out.2.1 ?_)))
                | ((with_reducible show wpList _ _ _ (Oper.mk _ (Op.load _ (.tmp 3)) _ _ _ _ :: _) _ _); (go_loud (refine wpList_load_row rfl 25 (.tmp 3) rfl (w.heap.size + 1) rfl 25 LC.toArray (0, 0) _ HLA.out HU.out rfl HIL.out.1 ?_)))
                | ((with_reducible show wpList _ _ _ (Oper.mk _ (Op.build _ _) _ _ _ _ :: _) _ _); (go_loud (refine wpl_build rfl 25 _ rfl #[] (by simp [Act.eval]) Z.toArray HBU.out ?_)))
                | ((with_reducible show wpList _ _ _ (Oper.mk _ (Op.store _ (.tmp 4) _) _ _ _ _ :: _) _ _); (go_loud (refine wpList_store_row rfl 25 (.tmp 4) (.tmp 43) rfl (w.heap.size + 1 + 1) Z.toArray rfl rfl 25 Z.toArray HZA.out HIZ.out.1 rfl HIZ.out.2 ?_))))
              have hval := HNONE.out
              subst hval
              have hze : (nums .u8 z32h).toArray = Z.toArray := by rw [HZZ.out.1]
              rw [hze]
              exact bodyPost_ret (results_ct rfl _ _ (w.heap.size + 1 + 1) 25 Z.toArray (0, 0) _ rfl (setRow_heap _ _ _ _ _ _ HZA.out) HU.out rfl HIZ.out.1) rfl ⟨rfl, below_setRow HBA.out (by omega) _⟩
          · have e2 : ((p : Int) == (nn : Int) - 1) = false := by rw [beq_eq_false_iff_ne]; omega
            have bla : (p == nn - 1) = false := by simpa using la
            clear la
            by_cases sm : (hh == lf) = true
            · rw [sm] at q0
              have HNONE := Lib.hid (show up = (z32h, 15) from by
                have h := HEQ.out
                rw [if_pos (by simp [bev, bla, sm])] at h
                have h2 := HVAL.out
                rw [← h] at h2
                exact h2)
              go_wp2_with (first
                | ((with_reducible show wpList _ _ _ (Oper.mk _ (Op.load _ (.tmp 27)) _ _ _ _ :: _) _ _); (go_loud (refine wpList_load_mid rfl 25 (.tmp 27) rfl b (o + k * 32) rfl HC _ HRG.out HU.out rfl HIC.out.1 ?_)))
                | ((with_reducible show wpList _ _ _ (Oper.mk _ (Op.store _ (.tmp 10) _) _ _ _ _ :: _) _ _); (go_loud (refine wpl_store_new rfl 25 (.tmp 10) (.tmp 28) rfl Z.toArray HC.toArray rfl rfl HIC.out.2.1 HIC.out.2.2.1 HIC.out.2.2.2 ?_)))
                | ((with_reducible show wpList _ _ _ (Oper.mk _ (Op.load _ (.tmp 10)) _ _ _ _ :: _) _ _); (go_loud (refine wpList_load_row rfl 25 (.tmp 10) rfl wr.heap.size rfl 25 HC.toArray (0, 0) _ HNA.out HU.out rfl HIC.out.2.1 ?_)))
                | ((with_reducible show wpList _ _ _ (Oper.mk _ (Op.load _ (.tmp 3)) _ _ _ _ :: _) _ _); (go_loud (refine wpList_load_row rfl 25 (.tmp 3) rfl (w.heap.size + 1) rfl 25 LC.toArray (0, 0) _ HLA.out HU.out rfl HIL.out.1 ?_)))
                | ((with_reducible show wpList _ _ _ (Oper.mk _ (Op.build _ _) _ _ _ _ :: _) _ _); (go_loud (refine wpl_build rfl 25 _ rfl #[] (by simp [Act.eval]) Z.toArray HBU.out ?_)))
                | ((with_reducible show wpList _ _ _ (Oper.mk _ (Op.store _ (.tmp 4) _) _ _ _ _ :: _) _ _); (go_loud (refine wpList_store_row rfl 25 (.tmp 4) (.tmp 43) rfl (w.heap.size + 1 + 1) Z.toArray rfl rfl 25 Z.toArray HZA.out HIZ.out.1 rfl HIZ.out.2 ?_))))
              have hval := HNONE.out
              subst hval
              have hze : (nums .u8 z32h).toArray = Z.toArray := by rw [HZZ.out.1]
              rw [hze]
              exact bodyPost_ret (results_ct rfl _ _ (w.heap.size + 1 + 1) 25 Z.toArray (0, 0) _ rfl (setRow_heap _ _ _ _ _ _ HZA.out) HU.out rfl HIZ.out.1) rfl ⟨rfl, below_setRow HBA.out (by omega) _⟩
            · have bsm := Bool.eq_false_iff.2 sm
              rw [bsm] at q0
              have HEQ2 := Lib.hid (show upF (xs.drop (k + 1)) (p / 2) ((nn + 1) / 2) (twiceP [lf, hh].flatten) = upF xs i q leaf from by
                have h := HEQ.out
                rw [if_neg (by simp [bev, bla, bsm]), if_pos ev] at h
                simpa using h)
              have HYY := Lib.hid (show ∀ ys ∈ [lf, hh], ∀ x ∈ ys, 0 ≤ x ∧ x < 256 from fun ys hy => by
                simp only [List.mem_cons, List.not_mem_nil, or_false] at hy
                rcases hy with rfl | rfl
                · exact HLB.out.2
                · exact HHB.out.2)
              have HYL := Lib.hid (show [lf, hh].flatten.length ≤ 900000 by simp [HLB.out.1, HHB.out.1])
              obtain ⟨tw, htw⟩ : ∃ x, twiceP ([lf, hh].flatten) = x := ⟨_, rfl⟩
              have HTL := Lib.hid (show tw.length = 32 ∧ ∀ x ∈ tw, 0 ≤ x ∧ x < 256 by rw [← htw]; exact ⟨twiceP_len _, twiceP_bytes _⟩)
              have HTI := Lib.hid (show (Tryd.prog.info? 25).map (·.size) = some (nums .u8 tw).toArray.size ∧ LC.toArray.size = (nums .u8 tw).toArray.size ∧ (nums .u8 tw).toArray.all (·.oneCell') = true from ⟨by rw [List.size_toArray, nums_len, HTL.out.1]; exact (zero_of_info infoHash).2, by rw [List.size_toArray, List.size_toArray, nums_len, HTL.out.1, HIL.out.2], all_oneCell_toArray (nums_one _ _)⟩)
              rw [htw] at HEQ2
              obtain ⟨Wb, hWb⟩ : ∃ W, ((wr.alloc (.cells HC.toArray 25)).alloc (.cells #[.slice (some ⟨(w.heap.size + 1), 0, none⟩) 32 32, .slice (some ⟨wr.heap.size, 0, none⟩) 32 32] 33)).drew = W := ⟨_, rfl⟩
              have HWb := Lib.hid hWb
              have HBb := Lib.hid (show Below w.heap.size w Wb by rw [← hWb]; exact below_drew (below_alloc HBA.out _))
              have HNb := Lib.hid (show Wb.heap[w.heap.size + 1]? = some (.cells LC.toArray 25 (0, 0)) ∧ Wb.heap[w.heap.size + 1 + 1]? = some (.cells Z.toArray 25 (0, 0)) from by rw [← hWb]; exact ⟨blk_alloc HLA.out _, blk_alloc HZA.out _⟩)
              have HTW := Lib.hid (show Calls Tryd.prog 50 #[.slice (some ⟨wr.heap.size + 1, 0, none⟩) 2 2] Wb fun e w' => e = .returned (.agg (nums .u8 tw).toArray) ∧ Below Wb.heap.size Wb w' from by
                rw [← htw]
                have e1 := C_of_block (pre := []) (post := []) (k := .u8) (ys := lf) (o := 0) (t := 25) (fr := (0, 0)) (w := wr.alloc (.cells HC.toArray 25)) (b := w.heap.size + 1) (by rw [List.nil_append, List.append_nil, HLB2.out]; exact HLA.out) rfl (by rw [HLB.out.1]; decide)
                have e2 := C_of_block (pre := []) (post := []) (k := .u8) (ys := hh) (o := 0) (t := 25) (fr := (0, 0)) (w := wr.alloc (.cells HC.toArray 25)) (b := wr.heap.size) (by rw [List.nil_append, List.append_nil, HHB2.out]; exact HNA.out) rfl (by rw [HHB.out.1]; decide)
                have e3 := C_row2 (W := ((wr.alloc (.cells HC.toArray 25)).alloc (.cells #[.slice (some ⟨(w.heap.size + 1), 0, none⟩) lf.length 32, .slice (some ⟨wr.heap.size, 0, none⟩) hh.length 32] 33)).drew) (heap_alloc2_new wr _ _) (by rw [HLB.out.1]; exact Nat.le_refl _) (Kd.C_drew (Kd.C_alloc e1 _)) (by rw [HHB.out.1]; exact Nat.le_refl _) (Kd.C_drew (Kd.C_alloc e2 _))
                rw [HLB.out.1, HHB.out.1, hWb] at e3
                exact twice_calls _ 2 2 [lf, hh] Wb rfl e3 HYY.out HYL.out (by decide) (HK.out.below HBb.out (Nat.le_refl _)))
              have hbt := fun u => run_build2 (w.heap.size + 1) wr.heap.size u
              have hs := fun W g => slice_allH W g
              clear htw hWb HYY HYL
              go_wp2_with (first
                | ((with_reducible show wpList _ _ _ (Oper.mk _ (Op.load _ (.tmp 27)) _ _ _ _ :: _) _ _); (go_loud (refine wpList_load_mid rfl 25 (.tmp 27) rfl b (o + k * 32) rfl HC _ HRG.out HU.out rfl HIC.out.1 ?_)))
                | ((with_reducible show wpList _ _ _ (Oper.mk _ (Op.store _ (.tmp 10) _) _ _ _ _ :: _) _ _); (go_loud (refine wpl_store_new rfl 25 (.tmp 10) (.tmp 28) rfl Z.toArray HC.toArray rfl rfl HIC.out.2.1 HIC.out.2.2.1 HIC.out.2.2.2 ?_)))
                | ((with_reducible show wpList _ _ _ (Oper.mk _ (Op.load _ (.tmp 10)) _ _ _ _ :: _) _ _); (go_loud (refine wpList_load_row rfl 25 (.tmp 10) rfl wr.heap.size rfl 25 HC.toArray (0, 0) _ HNA.out HU.out rfl HIC.out.2.1 ?_)))
                | ((with_reducible show wpList _ _ _ (Oper.mk _ (Op.load _ (.tmp 3)) _ _ _ _ :: _) _ _); (go_loud (refine wpList_load_row rfl 25 (.tmp 3) rfl (w.heap.size + 1) rfl 25 LC.toArray (0, 0) _ HLA.out HU.out rfl HIL.out.1 ?_))))
              clear q0
              have hHeld : True := trivial
              refine wp_region_held (S := fun _ => True) (by kernel_rfl) ?_
              change wpAnyH _ _ _ _ _ _ _ _ (World.drew _)
              refine wpAnyH_take (i := 0) (oi := ({ dst := some 47, op := Op.slice 25 (Operand.tmp 3) none none none, type := 33, pos := "branch.go:55", after := #[], guard := none } : Oper)) (v := .slice (some ⟨(w.heap.size + 1), 0, none⟩) 32 32) rfl (by kernel_rfl) (by kernel_rfl) (by kernel_rfl) (fun _ _ _ h => h) (Or.inl ⟨by rfl, fun w hSw => by go_simp⟩) hHeld ?_
              simp only [Act.put, List.setIfInBounds_toArray, List.set_cons_zero, List.set_cons_succ]
              refine wpAnyH_take (i := 1) (oi := ({ dst := some 48, op := Op.slice 25 (Operand.tmp 10) none none none, type := 33, pos := "branch.go:55", after := #[], guard := none } : Oper)) (v := .slice (some ⟨wr.heap.size, 0, none⟩) 32 32) rfl (by kernel_rfl) (by kernel_rfl) (by kernel_rfl) (fun _ _ _ h => h) (Or.inl ⟨by rfl, fun w hSw => by go_simp⟩) hHeld ?_
              simp only [Act.put, List.setIfInBounds_toArray, List.set_cons_zero, List.set_cons_succ]
              refine wpAnyH_ready (rs := [2]) (by kernel_rfl) (by simp) ?_
              refine AllReadyH.cons (o := ({ dst := some 49, op := Op.buildSlice 62 2 #[(0, Operand.tmp 47), (1, Operand.tmp 48)], type := 62, pos := "branch.go:55", after := #[{ on := 0, ground := Ground.data }, { on := 1, ground := Ground.data }], guard := none } : Oper)) rfl (fun K hK => ?_) AllReadyH.nil
              go_simp
              rw [HWb.out]
              refine hK.out _ _ (trivial) (fun hHeld => ?_)
              clear hK K
              try simp only [Act.put, List.setIfInBounds_toArray, List.set_cons_zero, List.set_cons_succ]
              refine wpAnyH_ready (rs := [3]) (by kernel_rfl) (by simp) ?_
              refine AllReadyH.cons (o := ({ dst := some 50, op := Op.call { callee := Callee.value (Operand.func 50), args := #[Operand.tmp 49], argTypes := #[62] }, type := 25, pos := "branch.go:55", after := #[{ on := 2, ground := Ground.data }], guard := none } : Oper)) rfl (fun K hK => ?_) AllReadyH.nil
              go_simp
              (with_reducible refine HTW.out.mono ?_)
              rintro e w3 ⟨rfl, hb3⟩
              have HB3 := Lib.hid hb3
              clear hb3
              go_wp2_with fail
              refine hK.out _ _ (trivial) (fun hHeld => ?_)
              clear hK K
              try simp only [Act.put, List.setIfInBounds_toArray, List.set_cons_zero, List.set_cons_succ]
              have HL3 := Lib.hid ((HB3.out.block _ (blk_lt HNb.out.1)).trans HNb.out.1)
              have HZ3 := Lib.hid ((HB3.out.block _ (blk_lt HNb.out.2)).trans HNb.out.2)
              have HBW3 := Lib.hid (HBb.out.trans (Below.mono HB3.out HBb.out.size))
              refine wpAnyH_ready (rs := [4]) (by kernel_rfl) (by simp) ?_
              refine AllReadyH.cons (o := ({ dst := none, op := Op.store 25 (Operand.tmp 3) (Operand.tmp 50), type := 0, pos := "branch.go:55", after := #[{ on := 3, ground := Ground.data }, { on := 3, ground := Ground.chain }, { on := 0, ground := Ground.phase }, { on := 1, ground := Ground.phase }, { on := 2, ground := Ground.phase }, { on := 3, ground := Ground.phase }], guard := none } : Oper)) rfl (fun K hK => ?_) AllReadyH.nil
              rw [if_pos (by rfl)]
              refine wp_store_row 25 (.tmp 3) (.tmp 50) rfl (w.heap.size + 1) (nums .u8 tw).toArray (by rfl) (by rfl) 25 LC.toArray HL3.out HTI.out.1 HTI.out.2.1 HTI.out.2.2 ?_
              refine hK.out _ _ (trivial) (fun hHeld => ?_)
              clear hK K
              try simp only [Act.put, List.setIfInBounds_toArray, List.set_cons_zero, List.set_cons_succ]
              refine wpAnyH_done (by kernel_rfl) ?_ _
              clear hHeld hbt hs
              have HNEW := Lib.hid (show (w3.setRow (w.heap.size + 1) (nums .u8 tw).toArray).heap[w.heap.size + 1]? = some (.cells (nums .u8 tw).toArray 25 (0, 0)) ∧ (w3.setRow (w.heap.size + 1) (nums .u8 tw).toArray).heap[w.heap.size + 1 + 1]? = some (.cells Z.toArray 25 (0, 0)) ∧ Below w.heap.size w (w3.setRow (w.heap.size + 1) (nums .u8 tw).toArray) from ⟨setRow_heap _ _ _ _ _ _ HL3.out, (setRow_other _ _ _ _ (by omega)).trans HZ3.out, below_setRow HBW3.out (by omega) _⟩)
              obtain ⟨W5, hW5⟩ : ∃ W, w3.setRow (w.heap.size + 1) (nums .u8 tw).toArray = W := ⟨_, rfl⟩
              rw [hW5] at HNEW ⊢
              clear hW5
              have hwk : wrap64 ((k : Int) + 1) = ((k + 1 : Nat) : Int) := wrap64_succ (by have := HNUM.out; omega)
              go_wp2_with fail
              try rw [hwk]
              go_roundw
              case rel => exact ⟨k + 1, p / 2, (nn + 1) / 2, tw, by congr 1 <;> omega, by congr 1 <;> omega, by first | rfl | (congr 1 <;> omega), Lib.hid ⟨by have := HNUM.out; omega, HTL.out, HNEW.out.1, HNEW.out.2.1, HNEW.out.2.2, HEQ2.out⟩⟩
              case measure => have hq := HNUM.out; simp only [intOf]; omega
        · have e1 : ¬ (p : Int) % 2 = 0 := by omega
          have bev : (p % 2 == 0) = false := by simpa using ev
          by_cases sm : (hh == lf) = true
          · rw [sm] at q0
            have HNONE := Lib.hid (show up = (z32h, 15) from by
              have h := HEQ.out
              rw [if_pos (by simp [bev, sm])] at h
              have h2 := HVAL.out
              rw [← h] at h2
              exact h2)
            go_wp2_with (first
              | ((with_reducible show wpList _ _ _ (Oper.mk _ (Op.load _ (.tmp 27)) _ _ _ _ :: _) _ _); (go_loud (refine wpList_load_mid rfl 25 (.tmp 27) rfl b (o + k * 32) rfl HC _ HRG.out HU.out rfl HIC.out.1 ?_)))
              | ((with_reducible show wpList _ _ _ (Oper.mk _ (Op.store _ (.tmp 10) _) _ _ _ _ :: _) _ _); (go_loud (refine wpl_store_new rfl 25 (.tmp 10) (.tmp 28) rfl Z.toArray HC.toArray rfl rfl HIC.out.2.1 HIC.out.2.2.1 HIC.out.2.2.2 ?_)))
              | ((with_reducible show wpList _ _ _ (Oper.mk _ (Op.load _ (.tmp 10)) _ _ _ _ :: _) _ _); (go_loud (refine wpList_load_row rfl 25 (.tmp 10) rfl wr.heap.size rfl 25 HC.toArray (0, 0) _ HNA.out HU.out rfl HIC.out.2.1 ?_)))
              | ((with_reducible show wpList _ _ _ (Oper.mk _ (Op.load _ (.tmp 3)) _ _ _ _ :: _) _ _); (go_loud (refine wpList_load_row rfl 25 (.tmp 3) rfl (w.heap.size + 1) rfl 25 LC.toArray (0, 0) _ HLA.out HU.out rfl HIL.out.1 ?_)))
              | ((with_reducible show wpList _ _ _ (Oper.mk _ (Op.build _ _) _ _ _ _ :: _) _ _); (go_loud (refine wpl_build rfl 25 _ rfl #[] (by simp [Act.eval]) Z.toArray HBU.out ?_)))
              | ((with_reducible show wpList _ _ _ (Oper.mk _ (Op.store _ (.tmp 4) _) _ _ _ _ :: _) _ _); (go_loud (refine wpList_store_row rfl 25 (.tmp 4) (.tmp 43) rfl (w.heap.size + 1 + 1) Z.toArray rfl rfl 25 Z.toArray HZA.out HIZ.out.1 rfl HIZ.out.2 ?_))))
            have hval := HNONE.out
            subst hval
            have hze : (nums .u8 z32h).toArray = Z.toArray := by rw [HZZ.out.1]
            rw [hze]
            exact bodyPost_ret (results_ct rfl _ _ (w.heap.size + 1 + 1) 25 Z.toArray (0, 0) _ rfl (setRow_heap _ _ _ _ _ _ HZA.out) HU.out rfl HIZ.out.1) rfl ⟨rfl, below_setRow HBA.out (by omega) _⟩
          · have bsm := Bool.eq_false_iff.2 sm
            rw [bsm] at q0
            have HEQ2 := Lib.hid (show upF (xs.drop (k + 1)) (p / 2) ((nn + 1) / 2) (twiceP [hh, lf].flatten) = upF xs i q leaf from by
              have h := HEQ.out
              rw [if_neg (by simp [bev, bsm]), if_neg ev] at h
              simpa using h)
            have HYY := Lib.hid (show ∀ ys ∈ [hh, lf], ∀ x ∈ ys, 0 ≤ x ∧ x < 256 from fun ys hy => by
              simp only [List.mem_cons, List.not_mem_nil, or_false] at hy
              rcases hy with rfl | rfl
              · exact HHB.out.2
              · exact HLB.out.2)
            have HYL := Lib.hid (show [hh, lf].flatten.length ≤ 900000 by simp [HLB.out.1, HHB.out.1])
            obtain ⟨tw, htw⟩ : ∃ x, twiceP ([hh, lf].flatten) = x := ⟨_, rfl⟩
            have HTL := Lib.hid (show tw.length = 32 ∧ ∀ x ∈ tw, 0 ≤ x ∧ x < 256 by rw [← htw]; exact ⟨twiceP_len _, twiceP_bytes _⟩)
            have HTI := Lib.hid (show (Tryd.prog.info? 25).map (·.size) = some (nums .u8 tw).toArray.size ∧ LC.toArray.size = (nums .u8 tw).toArray.size ∧ (nums .u8 tw).toArray.all (·.oneCell') = true from ⟨by rw [List.size_toArray, nums_len, HTL.out.1]; exact (zero_of_info infoHash).2, by rw [List.size_toArray, List.size_toArray, nums_len, HTL.out.1, HIL.out.2], all_oneCell_toArray (nums_one _ _)⟩)
            rw [htw] at HEQ2
            obtain ⟨Wb, hWb⟩ : ∃ W, ((wr.alloc (.cells HC.toArray 25)).alloc (.cells #[.slice (some ⟨wr.heap.size, 0, none⟩) 32 32, .slice (some ⟨(w.heap.size + 1), 0, none⟩) 32 32] 33)).drew = W := ⟨_, rfl⟩
            have HWb := Lib.hid hWb
            have HBb := Lib.hid (show Below w.heap.size w Wb by rw [← hWb]; exact below_drew (below_alloc HBA.out _))
            have HNb := Lib.hid (show Wb.heap[w.heap.size + 1]? = some (.cells LC.toArray 25 (0, 0)) ∧ Wb.heap[w.heap.size + 1 + 1]? = some (.cells Z.toArray 25 (0, 0)) from by rw [← hWb]; exact ⟨blk_alloc HLA.out _, blk_alloc HZA.out _⟩)
            have HTW := Lib.hid (show Calls Tryd.prog 50 #[.slice (some ⟨wr.heap.size + 1, 0, none⟩) 2 2] Wb fun e w' => e = .returned (.agg (nums .u8 tw).toArray) ∧ Below Wb.heap.size Wb w' from by
              rw [← htw]
              have e1 := C_of_block (pre := []) (post := []) (k := .u8) (ys := lf) (o := 0) (t := 25) (fr := (0, 0)) (w := wr.alloc (.cells HC.toArray 25)) (b := w.heap.size + 1) (by rw [List.nil_append, List.append_nil, HLB2.out]; exact HLA.out) rfl (by rw [HLB.out.1]; decide)
              have e2 := C_of_block (pre := []) (post := []) (k := .u8) (ys := hh) (o := 0) (t := 25) (fr := (0, 0)) (w := wr.alloc (.cells HC.toArray 25)) (b := wr.heap.size) (by rw [List.nil_append, List.append_nil, HHB2.out]; exact HNA.out) rfl (by rw [HHB.out.1]; decide)
              have e3 := C_row2 (W := ((wr.alloc (.cells HC.toArray 25)).alloc (.cells #[.slice (some ⟨wr.heap.size, 0, none⟩) hh.length 32, .slice (some ⟨(w.heap.size + 1), 0, none⟩) lf.length 32] 33)).drew) (heap_alloc2_new wr _ _) (by rw [HHB.out.1]; exact Nat.le_refl _) (Kd.C_drew (Kd.C_alloc e2 _)) (by rw [HLB.out.1]; exact Nat.le_refl _) (Kd.C_drew (Kd.C_alloc e1 _))
              rw [HLB.out.1, HHB.out.1, hWb] at e3
              exact twice_calls _ 2 2 [hh, lf] Wb rfl e3 HYY.out HYL.out (by decide) (HK.out.below HBb.out (Nat.le_refl _)))
            have hbt := fun u => run_build2 wr.heap.size (w.heap.size + 1) u
            have hs := fun W g => slice_allH W g
            clear htw hWb HYY HYL
            go_wp2_with (first
              | ((with_reducible show wpList _ _ _ (Oper.mk _ (Op.load _ (.tmp 27)) _ _ _ _ :: _) _ _); (go_loud (refine wpList_load_mid rfl 25 (.tmp 27) rfl b (o + k * 32) rfl HC _ HRG.out HU.out rfl HIC.out.1 ?_)))
              | ((with_reducible show wpList _ _ _ (Oper.mk _ (Op.store _ (.tmp 10) _) _ _ _ _ :: _) _ _); (go_loud (refine wpl_store_new rfl 25 (.tmp 10) (.tmp 28) rfl Z.toArray HC.toArray rfl rfl HIC.out.2.1 HIC.out.2.2.1 HIC.out.2.2.2 ?_)))
              | ((with_reducible show wpList _ _ _ (Oper.mk _ (Op.load _ (.tmp 10)) _ _ _ _ :: _) _ _); (go_loud (refine wpList_load_row rfl 25 (.tmp 10) rfl wr.heap.size rfl 25 HC.toArray (0, 0) _ HNA.out HU.out rfl HIC.out.2.1 ?_)))
              | ((with_reducible show wpList _ _ _ (Oper.mk _ (Op.load _ (.tmp 3)) _ _ _ _ :: _) _ _); (go_loud (refine wpList_load_row rfl 25 (.tmp 3) rfl (w.heap.size + 1) rfl 25 LC.toArray (0, 0) _ HLA.out HU.out rfl HIL.out.1 ?_))))
            clear q0
            have hHeld : True := trivial
            refine wp_region_held (S := fun _ => True) (by kernel_rfl) ?_
            change wpAnyH _ _ _ _ _ _ _ _ (World.drew _)
            refine wpAnyH_take (i := 0) (oi := ({ dst := some 51, op := Op.slice 25 (Operand.tmp 10) none none none, type := 33, pos := "branch.go:57", after := #[], guard := none } : Oper)) (v := .slice (some ⟨wr.heap.size, 0, none⟩) 32 32) rfl (by kernel_rfl) (by kernel_rfl) (by kernel_rfl) (fun _ _ _ h => h) (Or.inl ⟨by rfl, fun w hSw => by go_simp⟩) hHeld ?_
            simp only [Act.put, List.setIfInBounds_toArray, List.set_cons_zero, List.set_cons_succ]
            refine wpAnyH_take (i := 1) (oi := ({ dst := some 52, op := Op.slice 25 (Operand.tmp 3) none none none, type := 33, pos := "branch.go:57", after := #[], guard := none } : Oper)) (v := .slice (some ⟨(w.heap.size + 1), 0, none⟩) 32 32) rfl (by kernel_rfl) (by kernel_rfl) (by kernel_rfl) (fun _ _ _ h => h) (Or.inl ⟨by rfl, fun w hSw => by go_simp⟩) hHeld ?_
            simp only [Act.put, List.setIfInBounds_toArray, List.set_cons_zero, List.set_cons_succ]
            refine wpAnyH_ready (rs := [2]) (by kernel_rfl) (by simp) ?_
            refine AllReadyH.cons (o := ({ dst := some 53, op := Op.buildSlice 62 2 #[(0, Operand.tmp 51), (1, Operand.tmp 52)], type := 62, pos := "branch.go:57", after := #[{ on := 0, ground := Ground.data }, { on := 1, ground := Ground.data }], guard := none } : Oper)) rfl (fun K hK => ?_) AllReadyH.nil
            go_simp
            rw [HWb.out]
            refine hK.out _ _ (trivial) (fun hHeld => ?_)
            clear hK K
            try simp only [Act.put, List.setIfInBounds_toArray, List.set_cons_zero, List.set_cons_succ]
            refine wpAnyH_ready (rs := [3]) (by kernel_rfl) (by simp) ?_
            refine AllReadyH.cons (o := ({ dst := some 54, op := Op.call { callee := Callee.value (Operand.func 50), args := #[Operand.tmp 53], argTypes := #[62] }, type := 25, pos := "branch.go:57", after := #[{ on := 2, ground := Ground.data }], guard := none } : Oper)) rfl (fun K hK => ?_) AllReadyH.nil
            go_simp
            (with_reducible refine HTW.out.mono ?_)
            rintro e w3 ⟨rfl, hb3⟩
            have HB3 := Lib.hid hb3
            clear hb3
            go_wp2_with fail
            refine hK.out _ _ (trivial) (fun hHeld => ?_)
            clear hK K
            try simp only [Act.put, List.setIfInBounds_toArray, List.set_cons_zero, List.set_cons_succ]
            have HL3 := Lib.hid ((HB3.out.block _ (blk_lt HNb.out.1)).trans HNb.out.1)
            have HZ3 := Lib.hid ((HB3.out.block _ (blk_lt HNb.out.2)).trans HNb.out.2)
            have HBW3 := Lib.hid (HBb.out.trans (Below.mono HB3.out HBb.out.size))
            refine wpAnyH_ready (rs := [4]) (by kernel_rfl) (by simp) ?_
            refine AllReadyH.cons (o := ({ dst := none, op := Op.store 25 (Operand.tmp 3) (Operand.tmp 54), type := 0, pos := "branch.go:57", after := #[{ on := 3, ground := Ground.data }, { on := 3, ground := Ground.chain }, { on := 0, ground := Ground.phase }, { on := 1, ground := Ground.phase }, { on := 2, ground := Ground.phase }, { on := 3, ground := Ground.phase }], guard := none } : Oper)) rfl (fun K hK => ?_) AllReadyH.nil
            rw [if_pos (by rfl)]
            refine wp_store_row 25 (.tmp 3) (.tmp 54) rfl (w.heap.size + 1) (nums .u8 tw).toArray (by rfl) (by rfl) 25 LC.toArray HL3.out HTI.out.1 HTI.out.2.1 HTI.out.2.2 ?_
            refine hK.out _ _ (trivial) (fun hHeld => ?_)
            clear hK K
            try simp only [Act.put, List.setIfInBounds_toArray, List.set_cons_zero, List.set_cons_succ]
            refine wpAnyH_done (by kernel_rfl) ?_ _
            clear hHeld hbt hs
            have HNEW := Lib.hid (show (w3.setRow (w.heap.size + 1) (nums .u8 tw).toArray).heap[w.heap.size + 1]? = some (.cells (nums .u8 tw).toArray 25 (0, 0)) ∧ (w3.setRow (w.heap.size + 1) (nums .u8 tw).toArray).heap[w.heap.size + 1 + 1]? = some (.cells Z.toArray 25 (0, 0)) ∧ Below w.heap.size w (w3.setRow (w.heap.size + 1) (nums .u8 tw).toArray) from ⟨setRow_heap _ _ _ _ _ _ HL3.out, (setRow_other _ _ _ _ (by omega)).trans HZ3.out, below_setRow HBW3.out (by omega) _⟩)
            obtain ⟨W5, hW5⟩ : ∃ W, w3.setRow (w.heap.size + 1) (nums .u8 tw).toArray = W := ⟨_, rfl⟩
            rw [hW5] at HNEW ⊢
            clear hW5
            have hwk : wrap64 ((k : Int) + 1) = ((k + 1 : Nat) : Int) := wrap64_succ (by have := HNUM.out; omega)
            go_wp2_with fail
            try rw [hwk]
            go_roundw
            case rel => exact ⟨k + 1, p / 2, (nn + 1) / 2, tw, by congr 1 <;> omega, by congr 1 <;> omega, by first | rfl | (congr 1 <;> omega), Lib.hid ⟨by have := HNUM.out; omega, HTL.out, HNEW.out.1, HNEW.out.2.1, HNEW.out.2.2, HEQ2.out⟩⟩
            case measure => have hq := HNUM.out; simp only [intOf]; omega
      · have hn0 : xs.length ≤ k := by rw [← HM.out]; omega
        rw [upF_nil hn0] at heq
        have hval : up = (lf, 0) := by rw [HVAL.out, ← heq]
        have hLl : (nums .u8 lf).length = 32 := by rw [nums_len]; exact hlf.1
        have hLo := nums_one .u8 lf
        subst hval
        have HLa := Lib.hid hLa
        have HZa := Lib.hid hZa
        have HB := Lib.hid hB
        have HIL := Lib.hid (show (Tryd.prog.info? 25).map (·.size) = some (nums .u8 lf).toArray.size ∧ Z.toArray.size = (nums .u8 lf).toArray.size ∧ (nums .u8 lf).toArray.all (·.oneCell') = true from ⟨by rw [List.size_toArray, hLl]; exact (zero_of_info infoHash).2, by rw [List.size_toArray, List.size_toArray, hLl, HZZ.out.2], all_oneCell_toArray hLo⟩)
        have g6 : ¬ (k : Int) < (m : Int) := by omega
        clear hLa hZa hB heq hLl hLo hn0 hlf H
        go_wp2_with (first
          | ((with_reducible show wpList _ _ _ (Oper.mk _ (Op.load _ (.tmp 3)) _ _ _ _ :: _) _ _); (go_loud (refine wpList_load_row rfl 25 (.tmp 3) rfl (w.heap.size + 1) rfl 25 (nums .u8 lf).toArray (0, 0) _ HLa.out HU.out rfl HIL.out.1 ?_)))
          | ((with_reducible show wpList _ _ _ (Oper.mk _ (Op.store _ (.tmp 4) _) _ _ _ _ :: _) _ _); (go_loud (refine wpList_store_row rfl 25 (.tmp 4) (.tmp 61) rfl (w.heap.size + 1 + 1) (nums .u8 lf).toArray rfl rfl 25 Z.toArray HZa.out HIL.out.1 HIL.out.2.1 HIL.out.2.2 ?_))))
        exact bodyPost_ret (results_ct rfl _ _ (w.heap.size + 1 + 1) 25 (nums .u8 lf).toArray (0, 0) _ rfl (setRow_heap _ _ _ _ _ _ HZa.out) HU.out rfl HIL.out.1) rfl ⟨rfl, below_setRow HB.out (by omega) _⟩
  · go_enter Tryd.func34, Tryd.ntmps34
    go_wp2_with ((with_reducible show wpList _ _ _ (Oper.mk _ (Op.load _ (.tmp 2)) _ _ _ _ :: _) _ _); rw [HW0.out]; (go_loud (refine wpList_load_row rfl 41 (.tmp 2) rfl w.heap.size rfl 41 #[.int .i64 cnt, .int .i64 idx, .slice A m c] (0, 0) _ HA0.out HUB.out rfl infoB ?_)))
    refine (HRI.out _).mono ?_
    rintro e w1 ⟨rfl, hb1⟩
    have HB1 := Lib.hid (HB0.out.trans (Below.mono hb1 HB0.out.size))
    have HZ1 := Lib.hid ((hb1.block _ (blk_lt HLZ0.out.2)).trans HLZ0.out.2)
    clear hb1
    go_wp2_with (first
      | ((with_reducible show wpList _ _ _ (Oper.mk _ (Op.build _ _) _ _ _ _ :: _) _ _); (go_loud (refine wpl_build rfl 25 _ rfl #[] (by simp [Act.eval]) Z.toArray HBU.out ?_)))
      | ((with_reducible show wpList _ _ _ (Oper.mk _ (Op.store _ _ _) _ _ _ _ :: _) _ _); (go_loud (refine wpList_store_row rfl 25 (.tmp 4) (.tmp 16) rfl (w.heap.size + 1 + 1) Z.toArray rfl rfl 25 Z.toArray HZ1.out HIZ.out.1 rfl HIZ.out.2 ?_))))
    have hval : up = (z32h, e0) := by rw [← HUP.out]; unfold upP; rw [← HM.out, HE0.out, if_pos hok]
    subst hval
    have hze : (nums .u8 z32h).toArray = Z.toArray := by rw [HZZ.out.1]
    rw [hze]
    exact bodyPost_ret (results_ct rfl _ _ (w.heap.size + 1 + 1) 25 Z.toArray (0, 0) _ rfl (setRow_heap _ _ _ _ _ _ HZ1.out) HU.out rfl HIZ.out.1) rfl ⟨rfl, below_setRow HB1.out (by omega) _⟩
end Go.Proofs.YtlmcdkjobdcflaaDoor.Hand

/- Does a branch lead to a root: the plain form, and walked. -/
namespace Go.Proofs.YtlmcdkjobdcflaaDoor.Hand
open Go Go.RowKit Go.Proofs.YtlmcdkjobdcflaaDoor.Plain Go.Proofs.YtlmcdkjobdcflaaDoor.PAll Go.Proofs.YtlmcdkjobdcflaaDoorW.PrintWords Go.Proofs.YtlmcdkjobdcflaaDoorW.PrintLast Go.Proofs.YtlmcdkjobdcflaaDoorW.PrintMore
set_option linter.unusedVariables false
set_option linter.unusedSimpArgs false
set_option maxRecDepth 100000
attribute [local go_sem ↓] Go.wp_at_zero Go.wp_at_succ
attribute [-go_sem] loadVar storeVar Instr.buildSlice
theorem upF_hash : ∀ (xs : List (List Int)) (p n : Nat) (leaf x : List Int), (leaf.length = 32 ∧ ∀ y ∈ leaf, 0 ≤ y ∧ y < 256) → upF xs p n leaf = some x → x.length = 32 ∧ ∀ y ∈ x, 0 ≤ y ∧ y < 256
  | [], p, n, leaf, x, h, e => by
    rw [upF] at e
    injection e with e
    exact e ▸ h
  | y :: xs, p, n, leaf, x, h, e => by
    rw [upF] at e
    split at e
    · cases e
    · refine upF_hash xs _ _ _ x ?_ e
      split
      · exact ⟨twiceP_len _, twiceP_bytes _⟩
      · exact ⟨twiceP_len _, twiceP_bytes _⟩
theorem upP_hash (cnt idx : Int) (xs : List (List Int)) {leaf : List Int} (h : leaf.length = 32 ∧ ∀ y ∈ leaf, 0 ≤ y ∧ y < 256) : (upP cnt idx xs leaf).1.length = 32 ∧ ∀ y ∈ (upP cnt idx xs leaf).1, 0 ≤ y ∧ y < 256 := by
  unfold upP
  split
  · exact z32h_hash
  · cases hu : upF xs idx.toNat cnt.toNat leaf with
    | none => exact z32h_hash
    | some x => exact upF_hash _ _ _ _ x h hu
def checkP (cnt idx : Int) (xs : List (List Int)) (root leaf : List Int) : Int := if (upP cnt idx xs leaf).2 = 0 then (if ((upP cnt idx xs leaf).1 == root) = true then 0 else 15) else (upP cnt idx xs leaf).2
set_option maxHeartbeats 4000000 in
theorem check_calls (cnt idx : Int) (A : Option Addr) (m c : Nat) (xs : List (List Int)) (root leaf : List Int) (w : World) (hm : m = xs.length) (hr : Kd.C kH w A m xs) (hc : m ≤ c) (hH : Hs xs) (hr32 : root.length = 32) (hl32 : leaf.length = 32) (hlb : ∀ x ∈ leaf, 0 ≤ x ∧ x < 256) (hK : KT w)
    (h0 : -9223372036854775808 ≤ cnt) (h1 : cnt ≤ 9223372036854775807) :
    Calls Tryd.prog 33 #[bV cnt idx A m c, .agg (nums .u8 root).toArray, .agg (nums .u8 leaf).toArray] w fun e w' => e = .returned (.int .i64 (checkP cnt idx xs root leaf)) ∧ Below w.heap.size w w' := by
  have hmx := Kd.C_max hr
  have HHZ := (zero_of_info infoHash).1
  have HUP := Lib.hid (fun (u : World) (hu : Below w.heap.size w u) => up_calls cnt idx A m c xs leaf u hm (Kd.C_below hr hu) hc hH hl32 hlb (hK.below hu (Nat.le_refl _)) h0 h1)
  obtain ⟨tp, htp⟩ : ∃ x, upP cnt idx xs leaf = x := ⟨_, rfl⟩
  have hth := upP_hash cnt idx xs ⟨hl32, hlb⟩
  have hv : checkP cnt idx xs root leaf = if tp.2 = 0 then (if (tp.1 == root) = true then 0 else 15) else tp.2 := by unfold checkP; rw [htp]
  rw [htp] at HUP hth
  rw [hv]
  obtain ⟨T, E⟩ := tp
  simp only at HUP hth hv ⊢
  have q0 := fun u => eqH T root hth.1 hr32 u
  have hTl : (nums .u8 T).length = 32 := by rw [nums_len]; exact hth.1
  have hRl : (nums .u8 root).length = 32 := by rw [nums_len]; exact hr32
  have hLl : (nums .u8 leaf).length = 32 := by rw [nums_len]; exact hl32
  have hT1 := nums_one .u8 T
  obtain ⟨TC, hTC⟩ : ∃ x, nums .u8 T = x := ⟨_, rfl⟩
  obtain ⟨R, hR⟩ : ∃ x, nums .u8 root = x := ⟨_, rfl⟩
  obtain ⟨L, hL⟩ : ∃ x, nums .u8 leaf = x := ⟨_, rfl⟩
  rw [hTC] at hTl hT1 q0 HUP
  rw [hR] at hRl q0 ⊢
  rw [hL] at hLl HUP ⊢
  obtain ⟨Z, hZ⟩ : ∃ x, nums .u8 (List.replicate 32 0) = x := ⟨_, rfl⟩
  rw [hZ] at HHZ
  have hZl : Z.length = 32 := by rw [← hZ]; rfl
  have hi : ∀ X : List Value, X.length = 32 → (Tryd.prog.info? 25).map (·.size) = some X.toArray.size := fun X h => by rw [List.size_toArray, h]; exact (zero_of_info infoHash).2
  have HI := Lib.hid (And.intro (hi TC hTl) (And.intro (hi R hRl) (And.intro (hi L hLl) (And.intro (show Z.toArray.size = TC.toArray.size by rw [List.size_toArray, List.size_toArray, hTl, hZl]) (all_oneCell_toArray hT1)))))
  have HU := Lib.hid Tryd.underlying25
  have HUB := Lib.hid Tryd.underlying41
  obtain ⟨hA0, hR0, hL0⟩ := alloc3 w (.cells #[.int .i64 cnt, .int .i64 idx, .slice A m c] 41) (.cells R.toArray 25) (.cells L.toArray 25)
  have HB0 := Lib.hid (below_alloc (below_alloc (below_alloc (Below.refl w.heap.size w) (.cells #[.int .i64 cnt, .int .i64 idx, .slice A m c] 41)) (.cells R.toArray 25)) (.cells L.toArray 25))
  obtain ⟨W0, hW0⟩ : ∃ W0, ((w.alloc (.cells #[.int .i64 cnt, .int .i64 idx, .slice A m c] 41)).alloc (.cells R.toArray 25)).alloc (.cells L.toArray 25) = W0 := ⟨_, rfl⟩
  rw [hW0] at hA0 hR0 hL0 HB0
  have HBK := Lib.hid (And.intro hA0 (And.intro hR0 hL0))
  have HW0 := Lib.hid hW0
  unfold bV at HUP ⊢
  clear hA0 hR0 hL0 hW0 hm hr hH hr32 hl32 hlb hK htp hth hTl hRl hLl hT1 hTC hR hL hZ hZl hi hv h0 h1
  by_cases he : E = 0
  · subst he
    rw [if_pos rfl]
    by_cases sm : (T == root) = true
    · rw [sm] at q0
      rw [if_pos sm]
      clear sm
      go_enter Tryd.func33, Tryd.ntmps33
      go_wp2_with (first
        | ((with_reducible show wpList _ _ _ (Oper.mk _ (Op.load _ (.tmp 3)) _ _ _ _ :: _) _ _); rw [HW0.out]; (go_loud (refine wpList_load_row rfl 41 (.tmp 3) rfl w.heap.size rfl 41 #[.int .i64 cnt, .int .i64 idx, .slice A m c] (0, 0) _ HBK.out.1 HUB.out rfl infoB ?_)))
        | ((with_reducible show wpList _ _ _ (Oper.mk _ (Op.load _ (.tmp 5)) _ _ _ _ :: _) _ _); (go_loud (refine wpList_load_row rfl 25 (.tmp 5) rfl (w.heap.size + 1 + 1) rfl 25 L.toArray (0, 0) _ HBK.out.2.2 HU.out rfl HI.out.2.2.1 ?_))))
      refine (HUP.out _ HB0.out).mono ?_
      rintro e w1 ⟨rfl, hb1⟩
      have HB1 := Lib.hid (below_alloc (HB0.out.trans (Below.mono hb1 HB0.out.size)) (.cells TC.toArray 25))
      have hR1 := (hb1.block _ (blk_lt HBK.out.2.1)).trans HBK.out.2.1
      have hld1 := run_loadVar_row (P := Tryd.prog) (w1.alloc (.cells TC.toArray 25)) w1.heap.size 25 25 TC.toArray (0, 0) _ (heap_alloc_new w1 _) HU.out rfl HI.out.1
      have hld2 := run_loadVar_row (P := Tryd.prog) (w1.alloc (.cells TC.toArray 25)) (w.heap.size + 1) 25 25 R.toArray (0, 0) _ (blk_alloc hR1 _) HU.out rfl HI.out.2.1
      clear hb1 hR1
      go_wp2_with ((with_reducible show wpList _ _ _ (Oper.mk _ (Op.store _ (.tmp 7) _) _ _ _ _ :: _) _ _); (go_loud (refine wpl_store_new rfl 25 (.tmp 7) (.tmp 13) rfl Z.toArray TC.toArray rfl rfl HI.out.1 HI.out.2.2.2.1 HI.out.2.2.2.2 ?_)))
      go_ret
      exact ⟨rfl, HB1.out⟩
    · rw [Bool.eq_false_iff.2 sm] at q0
      rw [if_neg sm]
      clear sm
      go_enter Tryd.func33, Tryd.ntmps33
      go_wp2_with (first
        | ((with_reducible show wpList _ _ _ (Oper.mk _ (Op.load _ (.tmp 3)) _ _ _ _ :: _) _ _); rw [HW0.out]; (go_loud (refine wpList_load_row rfl 41 (.tmp 3) rfl w.heap.size rfl 41 #[.int .i64 cnt, .int .i64 idx, .slice A m c] (0, 0) _ HBK.out.1 HUB.out rfl infoB ?_)))
        | ((with_reducible show wpList _ _ _ (Oper.mk _ (Op.load _ (.tmp 5)) _ _ _ _ :: _) _ _); (go_loud (refine wpList_load_row rfl 25 (.tmp 5) rfl (w.heap.size + 1 + 1) rfl 25 L.toArray (0, 0) _ HBK.out.2.2 HU.out rfl HI.out.2.2.1 ?_))))
      refine (HUP.out _ HB0.out).mono ?_
      rintro e w1 ⟨rfl, hb1⟩
      have HB1 := Lib.hid (below_alloc (HB0.out.trans (Below.mono hb1 HB0.out.size)) (.cells TC.toArray 25))
      have hR1 := (hb1.block _ (blk_lt HBK.out.2.1)).trans HBK.out.2.1
      have hld1 := run_loadVar_row (P := Tryd.prog) (w1.alloc (.cells TC.toArray 25)) w1.heap.size 25 25 TC.toArray (0, 0) _ (heap_alloc_new w1 _) HU.out rfl HI.out.1
      have hld2 := run_loadVar_row (P := Tryd.prog) (w1.alloc (.cells TC.toArray 25)) (w.heap.size + 1) 25 25 R.toArray (0, 0) _ (blk_alloc hR1 _) HU.out rfl HI.out.2.1
      clear hb1 hR1
      go_wp2_with ((with_reducible show wpList _ _ _ (Oper.mk _ (Op.store _ (.tmp 7) _) _ _ _ _ :: _) _ _); (go_loud (refine wpl_store_new rfl 25 (.tmp 7) (.tmp 13) rfl Z.toArray TC.toArray rfl rfl HI.out.1 HI.out.2.2.2.1 HI.out.2.2.2.2 ?_)))
      go_ret
      exact ⟨rfl, HB1.out⟩
  · rw [if_neg he]
    go_enter Tryd.func33, Tryd.ntmps33
    go_wp2_with (first
      | ((with_reducible show wpList _ _ _ (Oper.mk _ (Op.load _ (.tmp 3)) _ _ _ _ :: _) _ _); rw [HW0.out]; (go_loud (refine wpList_load_row rfl 41 (.tmp 3) rfl w.heap.size rfl 41 #[.int .i64 cnt, .int .i64 idx, .slice A m c] (0, 0) _ HBK.out.1 HUB.out rfl infoB ?_)))
      | ((with_reducible show wpList _ _ _ (Oper.mk _ (Op.load _ (.tmp 5)) _ _ _ _ :: _) _ _); (go_loud (refine wpList_load_row rfl 25 (.tmp 5) rfl (w.heap.size + 1 + 1) rfl 25 L.toArray (0, 0) _ HBK.out.2.2 HU.out rfl HI.out.2.2.1 ?_))))
    refine (HUP.out _ HB0.out).mono ?_
    rintro e w1 ⟨rfl, hb1⟩
    have HB1 := Lib.hid (below_alloc (HB0.out.trans (Below.mono hb1 HB0.out.size)) (.cells TC.toArray 25))
    have hR1 := (hb1.block _ (blk_lt HBK.out.2.1)).trans HBK.out.2.1
    have hld1 := run_loadVar_row (P := Tryd.prog) (w1.alloc (.cells TC.toArray 25)) w1.heap.size 25 25 TC.toArray (0, 0) _ (heap_alloc_new w1 _) HU.out rfl HI.out.1
    have hld2 := run_loadVar_row (P := Tryd.prog) (w1.alloc (.cells TC.toArray 25)) (w.heap.size + 1) 25 25 R.toArray (0, 0) _ (blk_alloc hR1 _) HU.out rfl HI.out.2.1
    clear hb1 hR1
    go_wp2_with ((with_reducible show wpList _ _ _ (Oper.mk _ (Op.store _ (.tmp 7) _) _ _ _ _ :: _) _ _); (go_loud (refine wpl_store_new rfl 25 (.tmp 7) (.tmp 13) rfl Z.toArray TC.toArray rfl rfl HI.out.1 HI.out.2.2.2.1 HI.out.2.2.2.2 ?_)))
    go_ret
    exact ⟨rfl, HB1.out⟩
end Go.Proofs.YtlmcdkjobdcflaaDoor.Hand

/- The law's Ref of a branch: walked. -/
namespace Go.Proofs.YtlmcdkjobdcflaaDoor.Hand
open Go Go.RowKit Go.Proofs.YtlmcdkjobdcflaaDoor.Plain Go.Proofs.YtlmcdkjobdcflaaDoor.PAll Go.Proofs.YtlmcdkjobdcflaaDoorW.PrintWords Go.Proofs.YtlmcdkjobdcflaaDoorW.PrintLast Go.Proofs.YtlmcdkjobdcflaaDoorW.PrintMore
set_option linter.unusedVariables false
set_option linter.unusedSimpArgs false
set_option maxRecDepth 100000
attribute [local go_sem ↓] Go.wp_at_zero Go.wp_at_succ
attribute [-go_sem] loadVar storeVar Instr.buildSlice
theorem infoR9 : (Tryd.prog.info? 46).map (fun i => (i.zero, i.size)) = some (some (.agg #[.int .i64 0, .int .i64 0, .slice none 0 0]), 3) := by kernel_rfl
theorem built_ref9 (cnt idx : Int) (A : Option Addr) (m c : Nat) : Tryd.prog.built 46 [(0, .int .i64 cnt), (1, .int .i64 idx), (2, .slice A m c)] = some #[.int .i64 cnt, .int .i64 idx, .slice A m c] := by kernel_rfl
theorem C_setRow {w : World} {g : Nat} {cs : Array Value} {A : Option Addr} {xs : List (List Int)} (hC : Kd.C kH w A xs.length xs) (h32 : ∀ p ∈ xs, p.length = 32) (h : ∀ b o, A = some ⟨b, o, none⟩ → b ≠ g) : Kd.C kH (w.setRow g cs) A xs.length xs := by
  by_cases h0 : xs.length = 0
  · exact ⟨rfl, Kd.C_max hC, fun hp => absurd hp (by omega)⟩
  · obtain ⟨b, o, rfl, hb, hrg⟩ := C_hash hC (by omega)
    have hne := h b o rfl
    refine C_of_ranges (fun i hi j v hj => ?_) h32 (Kd.C_max hC)
    have h1 := (hrg i hi).1 j v hj
    have h2 : (w.setRow g cs).heap[b]? = w.heap[b]? := setRow_other _ _ _ _ hne
    unfold World.cell? at h1 ⊢
    rw [h2]
    exact h1
end Go.Proofs.YtlmcdkjobdcflaaDoor.Hand

/- A leaf's path leads to the list's root, if that is not doubled: the plain law. -/
namespace Go.Proofs.YtlmcdkjobdcflaaDoor.Hand
open Go Go.RowKit Go.Proofs.YtlmcdkjobdcflaaDoor.Plain
set_option linter.unusedVariables false
set_option linter.unusedSimpArgs false
set_option linter.unnecessarySimpa false
/-- The place beside. -/
def sib (i : Nat) : Nat := if i % 2 = 0 then i + 1 else i - 1
/-- A leaf's path, of so many levels. -/
def pathF : Nat → List (List Int) → Nat → List (List Int)
  | 0, _, _ => []
  | d + 1, xs, i => rdH xs (min (sib i) (xs.length - 1)) :: pathF d (aboveP xs) (i / 2)
theorem pathF_len : ∀ d xs i, (pathF d xs i).length = d
  | 0, _, _ => rfl
  | d + 1, xs, i => by rw [pathF, List.length_cons, pathF_len d]
theorem doubAt_above (xs : List (List Int)) : ∀ k, doubAt xs (k + 1) = (pairedP xs || doubAt (aboveP xs) k)
  | 0 => by simp [doubAt, lev]
  | k + 1 => by
    rw [doubAt, doubAt_above xs k, doubAt, lev_above, Bool.or_assoc]
theorem depth_above {n d : Nat} (h : IsDepth n (d + 1)) : IsDepth ((n + 1) / 2) d := by
  obtain ⟨h1, h2⟩ := h
  rw [Nat.pow_succ] at h1
  refine ⟨by omega, fun i hi => ?_⟩
  have := h2 (i + 1) (by omega)
  rw [Nat.pow_succ] at this
  omega
theorem paired_false {xs : List (List Int)} (h : pairedP xs = false) {k : Nat} (hk : 2 * k + 1 < xs.length) : rdH xs (2 * k + 1) ≠ rdH xs (2 * k) := by
  intro e
  have := paired_of hk (by rw [e]; simp)
  rw [h] at this
  cases this
theorem up_path : ∀ (d : Nat) (xs : List (List Int)) (i : Nat), IsDepth xs.length d → i < xs.length → doubAt xs d = false → upF (pathF d xs i) i xs.length (rdH xs i) = some (rdH (lev xs d) 0)
  | 0, xs, i, hd, hi, _ => by
    have := hd.1
    obtain rfl : i = 0 := by omega
    rfl
  | d + 1, xs, i, hd, hi, hq => by
    have h2 : 2 ≤ xs.length := by
      have := hd.2 0 (by omega)
      rw [Nat.pow_zero] at this
      omega
    rw [doubAt_above] at hq
    obtain ⟨hp, hq⟩ := Bool.or_eq_false_iff.1 hq
    have ih := up_path d (aboveP xs) (i / 2) (by rw [aboveP_len]; exact depth_above hd) (by rw [aboveP_len]; omega) hq
    rw [rdH_above (by omega), aboveP_len, lev_above] at ih
    rw [pathF, upF]
    by_cases ev : i % 2 = 0
    · obtain ⟨k, rfl⟩ : ∃ k, i = 2 * k := ⟨i / 2, by omega⟩
      rw [show 2 * k / 2 = k by omega] at ih ⊢
      have hs : sib (2 * k) = 2 * k + 1 := by unfold sib; rw [if_pos ev]
      rw [hs]
      have hc : ((2 * k % 2 == 0 && 2 * k == xs.length - 1) != (rdH xs (min (2 * k + 1) (xs.length - 1)) == rdH xs (2 * k))) = false := by
        have h1 : (2 * k % 2 == 0) = true := by simpa using ev
        by_cases la : 2 * k = xs.length - 1
        · have h3 : (2 * k == xs.length - 1) = true := by rw [beq_iff_eq]; exact la
          have h4 : (rdH xs (2 * k) == rdH xs (2 * k)) = true := by rw [beq_iff_eq]
          rw [show min (2 * k + 1) (xs.length - 1) = 2 * k by omega, h1, h3, h4]
          rfl
        · have h3 : (2 * k == xs.length - 1) = false := by rw [beq_eq_false_iff_ne]; exact la
          have h4 : (rdH xs (2 * k + 1) == rdH xs (2 * k)) = false := by rw [beq_eq_false_iff_ne]; exact paired_false hp (k := k) (by omega)
          rw [show min (2 * k + 1) (xs.length - 1) = 2 * k + 1 by omega, h1, h3, h4]
          rfl
      rw [hc, if_neg (by decide), if_pos ev]
      exact ih
    · obtain ⟨k, rfl⟩ : ∃ k, i = 2 * k + 1 := ⟨i / 2, by omega⟩
      rw [show (2 * k + 1) / 2 = k by omega] at ih ⊢
      have hs : min (sib (2 * k + 1)) (xs.length - 1) = 2 * k := by unfold sib; rw [if_neg ev]; omega
      rw [hs]
      have hn := paired_false hp (k := k) hi
      have hc : (((2 * k + 1) % 2 == 0 && 2 * k + 1 == xs.length - 1) != (rdH xs (2 * k) == rdH xs (2 * k + 1))) = false := by
        have h1 : ((2 * k + 1) % 2 == 0) = false := by simpa using ev
        have h3 : (rdH xs (2 * k) == rdH xs (2 * k + 1)) = false := by simpa using Ne.symm hn
        rw [h1, h3]
        rfl
      rw [hc, if_neg (by decide), if_neg ev]
      rw [aboveAt, show min (2 * k + 1) (xs.length - 1) = 2 * k + 1 by omega] at ih
      exact ih
/-- P9.2: the way up from any leaf of a list that is not doubled, by its path, ends in the list's root. -/
theorem up_root {xs : List (List Int)} {i d : Nat} (hd : IsDepth xs.length d) (hi : i < xs.length) (hq : doubP xs = false) : upF (pathF d xs i) i xs.length (rdH xs i) = some (rootP xs) := by
  rw [doubP_depth hd] at hq
  rw [up_path d xs i hd hi hq, rootP_of hd, rootAt_depth hd (by omega)]
theorem pathF_at : ∀ (d : Nat) (xs : List (List Int)) (i k : Nat), k < d → rdH (pathF d xs i) k = rdH (lev xs k) (min (sib (i / 2 ^ k)) (wideP xs.length k - 1))
  | d + 1, xs, i, 0, _ => by
    rw [pathF, Nat.pow_zero, Nat.div_one]
    rfl
  | d + 1, xs, i, k + 1, h => by
    have ih := pathF_at d (aboveP xs) (i / 2) k (by omega)
    have e1 : wideP (aboveP xs).length k = wideP xs.length (k + 1) := by rw [← lev_len, lev_above, lev_len]
    have e2 : i / 2 / 2 ^ k = i / 2 ^ (k + 1) := by rw [Nat.div_div_eq_div_mul, Nat.pow_succ, Nat.mul_comm]
    rw [lev_above, e1, e2] at ih
    rw [pathF, ← ih]
    rfl
theorem at_wide {n i : Nat} (h : i < n) : ∀ k, i / 2 ^ k < wideP n k
  | 0 => by simpa [wideP] using h
  | k + 1 => by
    have := at_wide h k
    rw [Nat.pow_succ, ← Nat.div_div_eq_div_mul]
    unfold wideP
    omega
/-- The place that the document takes. -/
theorem sib_min {a W : Nat} (h : a < W) : min (sib a) (W - 1) = if W ≤ sib a then a else sib a := by
  unfold sib
  split <;> split <;> omega
/-- The document's path: its nodes, level by level. -/
theorem pathF_node {d : Nat} {xs : List (List Int)} {i k : Nat} (hi : i < xs.length) (hk : k < d) : rdH (pathF d xs i) k = nodeP xs k (if wideP xs.length k ≤ sib (i / 2 ^ k) then i / 2 ^ k else sib (i / 2 ^ k)) := by
  have hw := at_wide hi k
  rw [pathF_at d xs i k hk, sib_min hw, nodeP_lev]
  split
  · exact hw
  · omega
theorem pathF_Hs : ∀ (d : Nat) (xs : List (List Int)) (i : Nat), Hs xs → Hs (pathF d xs i)
  | 0, xs, i, _ => fun p hp => by cases hp
  | d + 1, xs, i, h => fun p hp => by
    rw [pathF] at hp
    rcases List.mem_cons.1 hp with rfl | hp
    · exact h.any _
    · exact pathF_Hs d (aboveP xs) (i / 2) (aboveP_Hs xs) p hp
end Go.Proofs.YtlmcdkjobdcflaaDoor.Hand

/- What a made branch, and others, say: the plain laws. -/
namespace Go.Proofs.YtlmcdkjobdcflaaDoor.Hand
open Go Go.RowKit Go.Proofs.YtlmcdkjobdcflaaDoor.Plain
set_option linter.unusedVariables false
set_option linter.unusedSimpArgs false
set_option linter.unnecessarySimpa false
theorem bright_of {n i d m : Nat} (hd : IsDepth n d) (hi : i < n) (hn : n ≤ 65536) : brightP (n : Int) (i : Int) m = if m = d then 0 else 3 := by
  unfold brightP
  rw [if_neg (by omega), Int.toNat_natCast, IsDepth.unique (depthP_is n) hd]
  by_cases h : m = d
  · rw [if_neg (by simpa using h), if_pos h]
  · rw [if_pos h, if_neg h]
theorem upP_own {xs : List (List Int)} {n i d : Nat} (hx : n = xs.length) (hd : IsDepth n d) (hi : i < n) (hn : n ≤ 65536) (hq : doubP xs = false) : upP (n : Int) (i : Int) (pathF d xs i) (rdH xs i) = (rootP xs, 0) := by
  subst hx
  unfold upP
  rw [pathF_len, bright_of hd hi hn, if_pos rfl, if_neg (by decide), Int.toNat_natCast, Int.toNat_natCast, up_root hd hi hq]
theorem checkP_own {xs : List (List Int)} {n i d : Nat} (hx : n = xs.length) (hd : IsDepth n d) (hi : i < n) (hn : n ≤ 65536) (hq : doubP xs = false) : checkP (n : Int) (i : Int) (pathF d xs i) (rootP xs) (rdH xs i) = 0 := by
  unfold checkP
  rw [upP_own hx hd hi hn hq, if_pos rfl, if_pos (by simp)]
/-- A path of another length is none's. -/
theorem upP_len {ys : List (List Int)} {n i d : Nat} (hd : IsDepth n d) (hi : i < n) (hn : n ≤ 65536) (hy : ys.length ≠ d) (leaf : List Int) : upP (n : Int) (i : Int) ys leaf = (z32h, 3) := by
  unfold upP
  rw [bright_of hd hi hn, if_neg hy, if_pos (by decide)]
theorem checkP_len {ys : List (List Int)} {n i d : Nat} (hd : IsDepth n d) (hi : i < n) (hn : n ≤ 65536) (hy : ys.length ≠ d) (root leaf : List Int) : checkP (n : Int) (i : Int) ys root leaf = 3 := by
  unfold checkP
  rw [upP_len hd hi hn hy, if_neg (by decide)]
/-- One leaf more, the last once more: no branch leads from it. -/
theorem checkP_twice {xs : List (List Int)} {n d : Nat} (hx : xs.length = n) (ho : n % 2 = 1) (hn : n < 65536) (hd : IsDepth (n + 1) d) (root : List Int) : checkP ((n + 1 : Nat) : Int) (n : Int) (pathF d (xs ++ [rdH xs (n - 1)]) n) root (rdH (xs ++ [rdH xs (n - 1)]) n) = 15 := by
  have h1 : rdH (xs ++ [rdH xs (n - 1)]) n = rdH xs (n - 1) := by
    subst hx
    unfold rdH
    simp
  have h2 : rdH (xs ++ [rdH xs (n - 1)]) (n - 1) = rdH xs (n - 1) := by
    rw [rdH_eq (by rw [List.length_append, List.length_singleton]; omega), rdH_eq (show n - 1 < xs.length by omega), List.getElem_append_left (by omega)]
  obtain ⟨d, rfl⟩ : ∃ e, d = e + 1 := by
    cases d with
    | zero =>
      have := hd.1
      omega
    | succ e => exact ⟨e, rfl⟩
  have hb := bright_of (i := n) (m := d + 1) hd (by omega) (by omega)
  rw [if_pos rfl] at hb
  have hu : upP ((n + 1 : Nat) : Int) (n : Int) (pathF (d + 1) (xs ++ [rdH xs (n - 1)]) n) (rdH (xs ++ [rdH xs (n - 1)]) n) = (z32h, 15) := by
    unfold upP
    rw [pathF_len, hb, if_neg (by decide), Int.toNat_natCast, Int.toNat_natCast, pathF, upF, h1]
    have hs : min (sib n) ((xs ++ [rdH xs (n - 1)]).length - 1) = n - 1 := by
      unfold sib
      rw [if_neg (by omega), List.length_append, List.length_singleton, hx]
      omega
    rw [hs, h2, if_pos (by simp [ho])]
  unfold checkP
  rw [hu, if_neg (by decide)]
end Go.Proofs.YtlmcdkjobdcflaaDoor.Hand

/- A leaf's branch: walked. -/
namespace Go.Proofs.YtlmcdkjobdcflaaDoor.Hand
open Go Go.RowKit Go.Proofs.YtlmcdkjobdcflaaDoor.Plain Go.Proofs.YtlmcdkjobdcflaaDoor.PAll Go.Proofs.YtlmcdkjobdcflaaDoorW.PrintWords Go.Proofs.YtlmcdkjobdcflaaDoorW.PrintLast Go.Proofs.YtlmcdkjobdcflaaDoorW.PrintMore
set_option linter.unusedVariables false
set_option linter.unusedSimpArgs false
set_option maxRecDepth 100000
attribute [local go_sem ↓] Go.wp_at_zero Go.wp_at_succ
theorem run_store_hs (w : World) (a : Addr) (A : Option Addr) (m c : Nat) (v0 : Value) (h : w.cell? a = some v0) (hf : w.frozen? a = false) : (storeVar 22 a (.slice A m c)).run Tryd.prog w = .ok () (w.setCell a (.slice A m c)) := by
  go_simp
attribute [-go_sem] loadVar storeVar Instr.buildSlice
theorem infoB9 : (Tryd.prog.info? 41).map (fun i => (i.zero, i.size)) = some (some (.agg #[.int .i64 0, .int .i64 0, .slice none 0 0]), 3) := by kernel_rfl
theorem built_b0 : Tryd.prog.built 41 [] = some #[.int .i64 0, .int .i64 0, .slice none 0 0] := by kernel_rfl
theorem built_b2 (n i : Int) : Tryd.prog.built 41 [(0, .int .i64 n), (1, .int .i64 i)] = some #[.int .i64 n, .int .i64 i, .slice none 0 0] := by kernel_rfl
theorem nat_sib (x : Nat) : x ^^^ 1 = sib x := by
  have h1 : (x ^^^ 1) / 2 = x / 2 := by rw [Nat.xor_div_two]; simp
  have h2 : (x ^^^ 1) % 2 = (x + 1) % 2 := by
    have h := Nat.xor_mod_two_pow (a := x) (b := 1) (n := 1)
    rw [Nat.pow_one] at h
    rw [h]
    rcases Nat.mod_two_eq_zero_or_one x with e | e
    · rw [e, show (0 ^^^ 1 % 2 : Nat) = 1 by decide]
      omega
    · rw [e, show (1 ^^^ 1 % 2 : Nat) = 0 by decide]
      omega
  unfold sib
  split <;> omega
theorem i64_sib (x : Nat) (hx : x < 4611686018427387904) : bits .xor .i64 (x : Int) 1 = ((sib x : Nat) : Int) := by
  show IntKind.i64.wrap ((BitVec.ofInt 64 (x : Int) ^^^ BitVec.ofInt 64 1).toNat : Int) = _
  have h1 : (BitVec.ofInt 64 1).toNat = 1 := by decide
  have h2 : (BitVec.ofInt 64 (x : Int)).toNat = x := by
    rw [BitVec.ofInt_natCast, BitVec.toNat_ofNat]; exact Nat.mod_eq_of_lt (by omega)
  have h3 : sib x ≤ x + 1 := by unfold sib; split <;> omega
  rw [BitVec.toNat_xor, h1, h2, nat_sib, IntKind.wrap_i64]
  omega
theorem C_moved {w w1 : World} {A : Option Addr} {xs : List (List Int)} {n : Nat} (hn : xs.length = n) (hC : Kd.C kH w A n xs) (h32 : Hs xs) (h : ∀ b o, A = some ⟨b, o, none⟩ → w1.heap[b]? = w.heap[b]?) : Kd.C kH w1 A n xs := by
  subst hn
  by_cases h0 : xs.length = 0
  · exact ⟨rfl, Kd.C_max hC, fun hp => absurd hp (by omega)⟩
  · obtain ⟨b, o, rfl, hb, hrg⟩ := C_hash hC (by omega)
    have h2 := h b o rfl
    refine C_of_ranges (fun i hi j v hj => ?_) (fun p hp => (h32 p hp).1) (Kd.C_max hC)
    exact (World.cell?_of_block h2).trans ((hrg i hi).1 j v hj)
theorem above_new {xs : List (List Int)} {l m : Nat} (A : Option Addr) (c : Nat) (u : World) (hl : xs.length = l) (hm : (l + 1) / 2 = m) (hH : Hs xs) (h5 : l ≤ 100000) (hr : Kd.C kH u A l xs) (hc : l ≤ c) (hK : KT u) :
    Calls Tryd.prog 23 #[.slice A l c] u fun e w' => ∃ A2 c2, e = .returned (.slice A2 m c2) ∧ m ≤ c2 ∧ Kd.C kH w' A2 m (aboveP xs) ∧ (∀ b o, A2 = some ⟨b, o, none⟩ → u.heap.size ≤ b) ∧ Below u.heap.size u w' := by
  refine (above_calls A l c xs u hl.symm hr hc h5 hH hK).mono ?_
  rintro e w' ⟨v, rfl, hv, hb⟩
  obtain ⟨A2, c2, rfl, h1, h2⟩ := Kd.R_reads hv
  have h3 : (aboveP xs).length = m := by rw [aboveP_len, hl, hm]
  rw [h3] at h1 h2 ⊢
  exact ⟨A2, c2, rfl, h1, h2, fun b o e => by subst e; exact Kd.R_base hv b rfl, hb⟩
def lenV9 : Value → Nat
  | .slice _ n _ => n
  | _ => 0
end Go.Proofs.YtlmcdkjobdcflaaDoor.Hand

/- The branches' awake: walked. -/
namespace Go.Proofs.YtlmcdkjobdcflaaDoor.Hand
open Go Go.RowKit Go.Proofs.YtlmcdkjobdcflaaDoor.Plain Go.Proofs.YtlmcdkjobdcflaaDoor.PAll Go.Proofs.YtlmcdkjobdcflaaDoorW.PrintWords Go.Proofs.YtlmcdkjobdcflaaDoorW.PrintLast Go.Proofs.YtlmcdkjobdcflaaDoorW.PrintMore
set_option linter.unusedVariables false
set_option linter.unusedSimpArgs false
set_option maxRecDepth 100000
attribute [local go_sem ↓] Go.wp_at_zero Go.wp_at_succ
attribute [-go_sem] loadVar storeVar Instr.buildSlice
theorem doub3 : doubP [smallH 1, smallH 2, smallH 3] = false := by decide +kernel
theorem depth3 : IsDepth 3 2 := ⟨by decide, fun i hi => by
  obtain rfl | rfl : i = 0 ∨ i = 1 := by omega
  · decide
  · decide⟩
theorem run_hash3 (x y z : Int) (W : World) : (Instr.buildSlice 22 3 #[(0, .agg (nums .u8 (smallH x)).toArray), (1, .agg (nums .u8 (smallH y)).toArray), (2, .agg (nums .u8 (smallH z)).toArray)]).run Tryd.prog W = .ok (.slice (some ⟨W.heap.size, 0, none⟩) 3 3) (W.alloc (.cells (hcs [smallH x, smallH y, smallH z]).toArray 25)) := by
  kernel_rfl
end Go.Proofs.YtlmcdkjobdcflaaDoor.Hand

