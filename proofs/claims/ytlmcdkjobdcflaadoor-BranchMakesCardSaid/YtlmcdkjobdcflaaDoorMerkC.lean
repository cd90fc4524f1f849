/- Several texts in one. -/
import Derived.Test.YtlmcdkjobdcflaaDoorProg
import Derived.Below
import Derived.Deep.Draws
import Derived.Deep.AppendLies
import Derived.Maps.AppendAt
import Derived.OwnWalk
import Derived.Laws.BytesArg
import Derived.Laws.MakeOwn
import Derived.Laws.OwnMore
import Derived.Deep.OwnRows
import Derived.Tactics
import Derived.Lib.ConvBytes
import Derived.Laws.Slices
import Derived.WalkKit
import Derived.KernelRfl
import Derived.RowKit3
import Derived.Deep.LoopGhost
import Derived.Deep.QuietTactic
import Derived.BigQuiet
import Derived.WideLaws
import Derived.Deep.DeepCutAuto
import Derived.Deep.CutBlock
import Derived.Deep.RegionHeld3
import Derived.Laws.Rows
import Derived.Lib.AppendStr
import Derived.ArgAppend
import Derived.Laws.IdiomCopy
import Derived.OrdersHeld
import Derived.Laws.BitsLemmas
import Derived.RowKit
import Derived.StillTailTactics
import Derived.Test.YtlmcdkjobdcflaaDoorWWords
import Derived.Test.YtlmcdkjobdcflaaDoorWLast
import Derived.Test.YtlmcdkjobdcflaaDoorWMore
import Derived.Lib.Hide
import Derived.Outline
import Derived.Deep.MidRow
import Derived.Deep.WholeRow
import Derived.Deep.DrawnRows
import Derived.Test.YtlmcdkjobdcflaaDoorMerkB
import Derived.Test.YtlmcdkjobdcflaaDoorMerkA
/- The hash lists' awake: walked. -/
namespace Go.Proofs.YtlmcdkjobdcflaaDoor.Hand
open Go Go.RowKit Go.Proofs.YtlmcdkjobdcflaaDoor.Plain Go.Proofs.YtlmcdkjobdcflaaDoor.PAll Go.Proofs.YtlmcdkjobdcflaaDoorW.PrintWords Go.Proofs.YtlmcdkjobdcflaaDoorW.PrintLast Go.Proofs.YtlmcdkjobdcflaaDoorW.PrintMore
set_option linter.unusedVariables false
set_option linter.unusedSimpArgs false
set_option maxRecDepth 100000
attribute [local go_sem ↓] Go.wp_at_zero Go.wp_at_succ
attribute [-go_sem] loadVar storeVar Instr.buildSlice
theorem depth5 : depthP (5 : Int).toNat = 3 := by decide
theorem root_one (a : List Int) : rootP [a] = a := by
  have hd : IsDepth [a].length 0 := ⟨by simp, fun i hi => absurd hi (by omega)⟩
  rw [rootP_of hd, rootAt_depth hd (by simp)]
  rfl
theorem root_two (a b : List Int) : rootP [a, b] = twiceP (a ++ b) := by
  have hd : IsDepth [a, b].length 1 := ⟨by simp, fun i hi => by
    obtain rfl : i = 0 := by omega
    simp⟩
  rw [rootP_of hd, rootAt_depth hd (by simp), lev, lev, rdH_above (by simp), aboveAt]
  simp [rdH]
theorem doub_two (a : List Int) : doubP [a, a] = true := by
  have hd : IsDepth [a, a].length 1 := ⟨by simp, fun i hi => by
    obtain rfl : i = 0 := by omega
    simp⟩
  rw [doubP_of hd]
  refine doubAt_mono (i := 1) ?_ 2 (by omega)
  show (false || pairedP [a, a]) = true
  simp [pairedP, rdH]
theorem C_hash1 {w : World} {g : Nat} {t : TypeId} {fr : Nat × Nat} {p : List Int} (h : p.length = 32) (hb : w.heap[g]? = some (.cells (nums .u8 p).toArray t fr)) : Kd.C kH w (some ⟨g, 0, none⟩) 1 [p] :=
  C_of_hcs (xs := [p]) (by simpa [hcs] using hb) (by simp [h]) (by simp)
theorem C_hash2 {w : World} {g : Nat} {t : TypeId} {fr : Nat × Nat} {p q : List Int} (h : p.length = 32) (h2 : q.length = 32) (hb : w.heap[g]? = some (.cells (nums .u8 p ++ nums .u8 q).toArray t fr)) : Kd.C kH w (some ⟨g, 0, none⟩) 2 [p, q] :=
  C_of_hcs (xs := [p, q]) (by simpa [hcs] using hb) (by simp [h, h2]) (by simp)
theorem run_hash2 (x y : Int) (W : World) : (Instr.buildSlice 22 2 #[(0, .agg (nums .u8 (smallH x)).toArray), (1, .agg (nums .u8 (smallH y)).toArray)]).run Tryd.prog W = .ok (.slice (some ⟨W.heap.size, 0, none⟩) 2 2) (W.alloc (.cells (nums .u8 (smallH x) ++ nums .u8 (smallH y)).toArray 25)) := by
  kernel_rfl
set_option maxHeartbeats 4000000 in
theorem awake8_calls (w : World) (hK : KT w) : Calls Tryd.prog 19 #[] w fun e w' => e = .returned (.bool true) ∧ Below w.heap.size w w' := by
  have HZ := (zero_of_info infoHash).1
  obtain ⟨Z, hZ⟩ : ∃ C, (nums .u8 (List.replicate 32 0)).toArray = C := ⟨_, rfl⟩
  rw [hZ] at HZ
  have hbu1 := built_small 1
  have hbu2 := built_small 2
  have hsa := smallH_hash (x := 1) (by omega)
  have hsb := smallH_hash (x := 2) (by omega)
  have hr2 := fun u => run_hash2 1 2 u
  have hr3 := fun u => run_hash2 1 1 u
  have hr1 := fun u => run_hash1 (smallH 1) hsa.1 u
  obtain ⟨a, hae⟩ : ∃ p, smallH 1 = p := ⟨_, rfl⟩
  obtain ⟨b, hbe⟩ : ∃ p, smallH 2 = p := ⟨_, rfl⟩
  rw [hae] at hbu1 hsa hr1 hr2 hr3
  rw [hbe] at hbu2 hsb hr2
  clear hae hbe
  obtain ⟨hsa, hba⟩ := hsa
  obtain ⟨hsb, hbb⟩ := hsb
  have hHa : Hs [a] := by
    intro p hp
    obtain rfl : p = a := by simpa using hp
    exact ⟨hsa, hba⟩
  have hHab : Hs [a, b] := by
    intro p hp
    rcases (by simpa using hp : p = a ∨ p = b) with rfl | rfl
    · exact ⟨hsa, hba⟩
    · exact ⟨hsb, hbb⟩
  have hHaa : Hs [a, a] := by
    intro p hp
    rcases (by simpa using hp : p = a ∨ p = a) with rfl | rfl <;> exact ⟨hsa, hba⟩
  have HD := Lib.hid (fun u : World => (show Calls Tryd.prog 28 #[.int .i64 5] u fun e w' => e = .returned (.int .i64 3) ∧ w' = u from by
    have h := depth_calls 5 u (by omega) (by omega)
    rw [depth5] at h
    exact h))
  have HR1 := Lib.hid (fun (u : World) (g : Nat) (hg : u.heap[g]? = some (.cells (nums .u8 a).toArray 25 (0, 0))) (hKu : KT u) => (show Calls Tryd.prog 20 #[.slice (some ⟨g, 0, none⟩) 1 1] u fun e w' => e = .returned (.agg (nums .u8 a).toArray) ∧ Below u.heap.size u w' from by
    have h := root_calls (some ⟨g, 0, none⟩) 1 1 [a] u rfl (C_hash1 hsa hg) (Nat.le_refl _) (by omega) hHa hKu
    rw [root_one] at h
    exact h))
  have HR2 := Lib.hid (fun (u : World) (g : Nat) (hg : u.heap[g]? = some (.cells (nums .u8 a ++ nums .u8 b).toArray 25 (0, 0))) (hKu : KT u) => (show Calls Tryd.prog 20 #[.slice (some ⟨g, 0, none⟩) 2 2] u fun e w' => e = .returned (.agg (nums .u8 (twiceP (a ++ b))).toArray) ∧ Below u.heap.size u w' from by
    have h := root_calls (some ⟨g, 0, none⟩) 2 2 [a, b] u rfl (C_hash2 hsa hsb hg) (Nat.le_refl _) (by omega) hHab hKu
    rw [root_two] at h
    exact h))
  have HDB := Lib.hid (fun (u : World) (g : Nat) (hg : u.heap[g]? = some (.cells (nums .u8 a ++ nums .u8 a).toArray 25 (0, 0))) (hKu : KT u) => (show Calls Tryd.prog 26 #[.slice (some ⟨g, 0, none⟩) 2 2] u fun e w' => e = .returned (.bool true) ∧ Below u.heap.size u w' from by
    have h := doubled_calls (some ⟨g, 0, none⟩) 2 2 [a, a] u rfl (C_hash2 hsa hsa hg) (Nat.le_refl _) (by omega) hHaa hKu
    rw [doub_two] at h
    exact h))
  have HPA := Lib.hid (fun u => rpair_calls a b u hsa hsb hba hbb)
  have q1 := fun u => eqH a a hsa hsa u
  have q2 := fun u => eqH (twiceP (a ++ b)) (twiceP (a ++ b)) (twiceP_len _) (twiceP_len _) u
  simp only [beq_self_eq_true] at q1 q2
  have hA1 := nums_one .u8 a
  have hB1 := nums_one .u8 b
  have hAl : (nums .u8 a).length = 32 := by rw [nums_len]; exact hsa
  have hBl : (nums .u8 b).length = 32 := by rw [nums_len]; exact hsb
  obtain ⟨T, hT⟩ : ∃ T, (nums .u8 (twiceP (a ++ b))).toArray = T := ⟨_, rfl⟩
  obtain ⟨A, hA⟩ : ∃ A, nums .u8 a = A := ⟨_, rfl⟩
  obtain ⟨B, hB⟩ : ∃ B, nums .u8 b = B := ⟨_, rfl⟩
  rw [hT] at HR2 HPA q2
  rw [hA] at HR1 HR2 HDB HPA q1 hbu1 hr1 hr2 hr3 hA1 hAl
  rw [hB] at HR2 HPA hbu2 hr2 hB1 hBl
  have hZ32 : Z.size = 32 := by rw [← hZ]; rfl
  have HF := Lib.hid (show ∀ L : List Value, L.length = 32 → (∀ v ∈ L, v.oneCell' = true) → (Tryd.prog.info? 25).map (·.size) = some L.toArray.size ∧ Z.size = L.toArray.size ∧ L.toArray.all (·.oneCell') = true from fun L hL h1 =>
    ⟨by rw [List.size_toArray, hL]; exact (zero_of_info infoHash).2, hZ32.trans (by rw [List.size_toArray, hL]), all_oneCell_toArray h1⟩)
  have HFA := Lib.hid (HF.out A hAl hA1)
  have HFB := Lib.hid (HF.out B hBl hB1)
  have HBU := Lib.hid (And.intro hbu1 hbu2)
  have hu := Tryd.underlying25
  have hi1 : (Tryd.prog.info? 25).map (·.size) = some A.length := by rw [hAl]; exact (zero_of_info infoHash).2
  have hi2 : (Tryd.prog.info? 25).map (·.size) = some B.length := by rw [hBl]; exact (zero_of_info infoHash).2
  have HK0 := Lib.hid (heap_alloc2_old w (.cells Z 25) (.cells Z 25))
  have HK1 := Lib.hid (heap_alloc2_new w (.cells Z 25) (.cells Z 25))
  have HB0 := Lib.hid (below_alloc (below_alloc (Below.refl w.heap.size w) (.cells Z 25)) (.cells Z 25))
  have hk1' : (((w.alloc (.cells Z 25)).alloc (.cells Z 25)).setRow w.heap.size A.toArray).heap[w.heap.size + 1]? = some (.cells Z 25 (0, 0)) := (setRow_other _ _ _ _ (by omega)).trans HK1.out
  have HK1' := Lib.hid hk1'
  have HK := Lib.hid hK
  clear hbu1 hbu2 hsa hsb hba hbb hHa hHab hHaa hA1 hB1 hAl hBl hT hA hB hZ hZ32 hk1' hK HF
  go_enter Tryd.func19, Tryd.ntmps19
  go_wp2_with (first
    | ((with_reducible show wpList _ _ _ (Oper.mk _ (Op.build _ #[(0, .const (.int .u8 1))]) _ _ _ _ :: _) _ _); (go_loud (refine wpl_build rfl 25 _ rfl #[(0, .int .u8 1)] (by simp [Act.eval]) A.toArray HBU.out.1 ?_)))
    | ((with_reducible show wpList _ _ _ (Oper.mk _ (Op.build _ _) _ _ _ _ :: _) _ _); (go_loud (refine wpl_build rfl 25 _ rfl #[(0, .int .u8 2)] (by simp [Act.eval]) B.toArray HBU.out.2 ?_)))
    | ((with_reducible show wpList _ _ _ (Oper.mk _ (Op.store _ (.tmp 1) _) _ _ _ _ :: _) _ _); (go_loud (refine wpList_store_row rfl 25 (.tmp 1) (.tmp 3) rfl w.heap.size A.toArray rfl rfl 25 Z HK0.out HFA.out.1 HFA.out.2.1 HFA.out.2.2 ?_)))
    | ((with_reducible show wpList _ _ _ (Oper.mk _ (Op.store _ (.tmp 2) _) _ _ _ _ :: _) _ _); (go_loud (refine wpList_store_row rfl 25 (.tmp 2) (.tmp 4) rfl (w.heap.size + 1) B.toArray rfl rfl 25 Z HK1'.out HFB.out.1 HFB.out.2.1 HFB.out.2.2 ?_))))
  have HKA := Lib.hid ((setRow_other _ (w.heap.size + 1) w.heap.size B.toArray (by omega)).trans (setRow_heap _ _ _ A.toArray _ _ HK0.out))
  have HKB := Lib.hid (setRow_heap _ _ _ B.toArray _ _ HK1'.out)
  have HBW := Lib.hid (below_setRow (below_setRow HB0.out (Nat.le_refl _) A.toArray) (show w.heap.size ≤ w.heap.size + 1 by omega) B.toArray)
  obtain ⟨W, hW⟩ : ∃ W, (((w.alloc (.cells Z 25)).alloc (.cells Z 25)).setRow w.heap.size A.toArray).setRow (w.heap.size + 1) B.toArray = W := ⟨_, rfl⟩
  rw [hW] at HKA HKB HBW ⊢
  clear hW HK0 HK1 HK1' HB0
  have HSS := Lib.hid (show ∀ u : World, Below W.heap.size W u → u.rangeAt w.heap.size 0 A ∧ u.rangeAt (w.heap.size + 1) 0 B from fun u hu => ⟨fun j v hj => by
    rw [Nat.zero_add, blk_cell ((hu.block _ (blk_lt HKA.out)).trans HKA.out), List.getElem?_toArray]
    exact hj, fun j v hj => by
    rw [Nat.zero_add, blk_cell ((hu.block _ (blk_lt HKB.out)).trans HKB.out), List.getElem?_toArray]
    exact hj⟩)
  have HB0 := Lib.hid (below_drew (Below.refl W.heap.size W))
  have HKT := Lib.hid (show ∀ u : World, Below W.heap.size W u → KT u from fun u hu => HK.out.below (HBW.out.trans (Below.mono hu HBW.out.size)) (Nat.le_refl _))
  have HTR := Lib.hid (show ∀ u u' : World, Below W.heap.size W u → Below u.heap.size u u' → Below W.heap.size W u' from fun u u' hu hu' => hu.trans (Below.mono hu' hu.size))
  refine wp_region_held (S := fun u => u.rangeAt w.heap.size 0 A ∧ u.rangeAt (w.heap.size + 1) 0 B) (by kernel_rfl) ?_
  change wpAnyH _ _ _ _ _ _ _ _ (World.drew _)
  have hHeld := HSS.out _ HB0.out
  refine wpAnyH_ready (rs := [0]) (by kernel_rfl) (by simp) ?_
  refine AllReadyH.cons (o := ({ dst := some 5, op := Op.call { callee := Callee.value (Operand.func 28), args := #[Operand.const (Value.int IntKind.i64 5)], argTypes := #[3] }, type := 3, pos := "law.go:13", after := #[], guard := none } : Oper)) rfl (fun K hK => ?_) AllReadyH.nil
  go_simp
  (with_reducible refine (HD.out _).mono ?_)
  rintro e w3 ⟨rfl, rfl⟩
  go_wp2_with fail
  refine hK.out _ _ (HSS.out _ HB0.out) (fun hHeld => ?_)
  clear hK K
  try simp only [Act.put, List.setIfInBounds_toArray, List.set_cons_zero, List.set_cons_succ]
  refine wpAnyH_take (i := 1) (oi := ({ dst := some 6, op := Op.binOp BinOp.eql 3 (Operand.tmp 5) (Operand.const (Value.int IntKind.i64 3)) 3, type := 4, pos := "law.go:13", after := #[{ on := 0, ground := Ground.data }], guard := none } : Oper)) (v := .bool true) rfl (by kernel_rfl) (by kernel_rfl) (by kernel_rfl) (fun _ _ _ h => h) (Or.inl ⟨by rfl, fun w hSw => by go_simp⟩) hHeld ?_
  simp only [Act.put, List.setIfInBounds_toArray, List.set_cons_zero, List.set_cons_succ]
  refine wpAnyH_take (i := 2) (oi := ({ dst := some 7, op := Op.move (Operand.tmp 6), type := 4, pos := "law.go:13", after := #[{ on := 1, ground := Ground.data }, { on := 0, ground := Ground.chain }], guard := none } : Oper)) (v := .bool true) rfl (by kernel_rfl) (by kernel_rfl) (by kernel_rfl) (fun _ _ _ h => h) (Or.inl ⟨by rfl, fun w hSw => by go_simp⟩) hHeld ?_
  simp only [Act.put, List.setIfInBounds_toArray, List.set_cons_zero, List.set_cons_succ]
  refine wpAnyH_take (i := 3) (oi := ({ dst := some 8, op := Op.load 25 (Operand.tmp 1), type := 25, pos := "law.go:13", after := #[{ on := 2, ground := Ground.guard }], guard := some (2, true) } : Oper)) (v := .agg A.toArray) rfl (by kernel_rfl) (by kernel_rfl) (by kernel_rfl) (fun _ _ _ h => h) (yieldsIf_load_mid (by rfl) _ _ rfl w.heap.size 0 rfl A _ (fun _ h => h.1) hu rfl hi1) hHeld ?_
  simp only [Act.put, List.setIfInBounds_toArray, List.set_cons_zero, List.set_cons_succ]
  refine wpAnyH_take (i := 6) (oi := ({ dst := some 11, op := Op.load 25 (Operand.tmp 1), type := 25, pos := "law.go:13", after := #[{ on := 2, ground := Ground.guard }], guard := some (2, true) } : Oper)) (v := .agg A.toArray) rfl (by kernel_rfl) (by kernel_rfl) (by kernel_rfl) (fun _ _ _ h => h) (yieldsIf_load_mid (by rfl) _ _ rfl w.heap.size 0 rfl A _ (fun _ h => h.1) hu rfl hi1) hHeld ?_
  simp only [Act.put, List.setIfInBounds_toArray, List.set_cons_zero, List.set_cons_succ]
  have HB1 := Lib.hid (below_drew (below_alloc (Below.refl W.heap.size W) (.cells A.toArray 25)))
  have HG1 := Lib.hid (show (W.alloc (.cells A.toArray 25)).drew.heap[W.heap.size]? = some (.cells A.toArray 25 (0, 0)) from heap_alloc_new W _)
  refine wpAnyH_ready (rs := [4]) (by kernel_rfl) (by simp) ?_
  refine AllReadyH.cons (o := ({ dst := some 9, op := Op.buildSlice 22 1 #[(0, Operand.tmp 8)], type := 22, pos := "law.go:13", after := #[{ on := 3, ground := Ground.data }, { on := 2, ground := Ground.guard }], guard := some (2, true) } : Oper)) rfl (fun K hK => ?_) AllReadyH.nil
  go_simp
  refine hK.out _ _ (HSS.out _ HB1.out) (fun hHeld => ?_)
  clear hK K
  try simp only [Act.put, List.setIfInBounds_toArray, List.set_cons_zero, List.set_cons_succ]
  refine wpAnyH_ready (rs := [5]) (by kernel_rfl) (by simp) ?_
  refine AllReadyH.cons (o := ({ dst := some 10, op := Op.call { callee := Callee.value (Operand.func 20), args := #[Operand.tmp 9], argTypes := #[22] }, type := 25, pos := "law.go:13", after := #[{ on := 4, ground := Ground.data }, { on := 2, ground := Ground.chain }, { on := 2, ground := Ground.guard }], guard := some (2, true) } : Oper)) rfl (fun K hK => ?_) AllReadyH.nil
  go_simp
  (with_reducible refine (HR1.out _ _ HG1.out (HKT.out _ HB1.out)).mono ?_)
  rintro e u5 ⟨rfl, hb5⟩
  have HB5 := Lib.hid (HTR.out _ _ HB1.out hb5)
  clear hb5
  go_wp2_with fail
  refine hK.out _ _ (HSS.out _ HB5.out) (fun hHeld => ?_)
  clear hK K
  try simp only [Act.put, List.setIfInBounds_toArray, List.set_cons_zero, List.set_cons_succ]
  refine wpAnyH_take (i := 7) (oi := ({ dst := some 12, op := Op.binOp BinOp.eql 25 (Operand.tmp 10) (Operand.tmp 11) 25, type := 4, pos := "law.go:13", after := #[{ on := 5, ground := Ground.data }, { on := 6, ground := Ground.data }, { on := 2, ground := Ground.guard }], guard := some (2, true) } : Oper)) (v := .bool true) rfl (by kernel_rfl) (by kernel_rfl) (by kernel_rfl) (fun _ _ _ h => h) (Or.inl ⟨by rfl, fun w hSw => by go_simp⟩) hHeld ?_
  simp only [Act.put, List.setIfInBounds_toArray, List.set_cons_zero, List.set_cons_succ]
  refine wpAnyH_take (i := 8) (oi := ({ dst := some 13, op := Op.pick (Operand.tmp 7) (Operand.tmp 12) (Operand.const (Value.bool false)), type := 4, pos := "law.go:13", after := #[{ on := 2, ground := Ground.data }, { on := 7, ground := Ground.data }], guard := none } : Oper)) (v := .bool true) rfl (by kernel_rfl) (by kernel_rfl) (by kernel_rfl) (fun _ _ _ h => h) (Or.inl ⟨by rfl, fun w hSw => by go_simp⟩) hHeld ?_
  simp only [Act.put, List.setIfInBounds_toArray, List.set_cons_zero, List.set_cons_succ]
  refine wpAnyH_take (i := 9) (oi := ({ dst := some 14, op := Op.move (Operand.tmp 13), type := 4, pos := "law.go:13", after := #[{ on := 8, ground := Ground.data }, { on := 5, ground := Ground.chain }], guard := none } : Oper)) (v := .bool true) rfl (by kernel_rfl) (by kernel_rfl) (by kernel_rfl) (fun _ _ _ h => h) (Or.inl ⟨by rfl, fun w hSw => by go_simp⟩) hHeld ?_
  simp only [Act.put, List.setIfInBounds_toArray, List.set_cons_zero, List.set_cons_succ]
  refine wpAnyH_take (i := 10) (oi := ({ dst := some 15, op := Op.load 25 (Operand.tmp 1), type := 25, pos := "law.go:13", after := #[{ on := 9, ground := Ground.guard }], guard := some (9, true) } : Oper)) (v := .agg A.toArray) rfl (by kernel_rfl) (by kernel_rfl) (by kernel_rfl) (fun _ _ _ h => h) (yieldsIf_load_mid (by rfl) _ _ rfl w.heap.size 0 rfl A _ (fun _ h => h.1) hu rfl hi1) hHeld ?_
  simp only [Act.put, List.setIfInBounds_toArray, List.set_cons_zero, List.set_cons_succ]
  refine wpAnyH_take (i := 11) (oi := ({ dst := some 16, op := Op.load 25 (Operand.tmp 2), type := 25, pos := "law.go:13", after := #[{ on := 9, ground := Ground.guard }], guard := some (9, true) } : Oper)) (v := .agg B.toArray) rfl (by kernel_rfl) (by kernel_rfl) (by kernel_rfl) (fun _ _ _ h => h) (yieldsIf_load_mid (by rfl) _ _ rfl (w.heap.size + 1) 0 rfl B _ (fun _ h => h.2) hu rfl hi2) hHeld ?_
  simp only [Act.put, List.setIfInBounds_toArray, List.set_cons_zero, List.set_cons_succ]
  refine wpAnyH_take (i := 14) (oi := ({ dst := some 19, op := Op.load 25 (Operand.tmp 1), type := 25, pos := "law.go:13", after := #[{ on := 9, ground := Ground.guard }], guard := some (9, true) } : Oper)) (v := .agg A.toArray) rfl (by kernel_rfl) (by kernel_rfl) (by kernel_rfl) (fun _ _ _ h => h) (yieldsIf_load_mid (by rfl) _ _ rfl w.heap.size 0 rfl A _ (fun _ h => h.1) hu rfl hi1) hHeld ?_
  simp only [Act.put, List.setIfInBounds_toArray, List.set_cons_zero, List.set_cons_succ]
  refine wpAnyH_take (i := 15) (oi := ({ dst := some 20, op := Op.load 25 (Operand.tmp 2), type := 25, pos := "law.go:13", after := #[{ on := 9, ground := Ground.guard }], guard := some (9, true) } : Oper)) (v := .agg B.toArray) rfl (by kernel_rfl) (by kernel_rfl) (by kernel_rfl) (fun _ _ _ h => h) (yieldsIf_load_mid (by rfl) _ _ rfl (w.heap.size + 1) 0 rfl B _ (fun _ h => h.2) hu rfl hi2) hHeld ?_
  simp only [Act.put, List.setIfInBounds_toArray, List.set_cons_zero, List.set_cons_succ]
  have HB12 := Lib.hid (HTR.out _ _ HB5.out (below_alloc (Below.refl u5.heap.size u5) (.cells (A ++ B).toArray 25)))
  have HG12 := Lib.hid (heap_alloc_new u5 (.cells (A ++ B).toArray 25))
  refine wpAnyH_ready (rs := [12]) (by kernel_rfl) (by simp) ?_
  refine AllReadyH.cons (o := ({ dst := some 17, op := Op.buildSlice 22 2 #[(0, Operand.tmp 15), (1, Operand.tmp 16)], type := 22, pos := "law.go:13", after := #[{ on := 10, ground := Ground.data }, { on := 11, ground := Ground.data }, { on := 9, ground := Ground.guard }], guard := some (9, true) } : Oper)) rfl (fun K hK => ?_) AllReadyH.nil
  go_simp
  refine hK.out _ _ (HSS.out _ HB12.out) (fun hHeld => ?_)
  clear hK K
  try simp only [Act.put, List.setIfInBounds_toArray, List.set_cons_zero, List.set_cons_succ]
  refine wpAnyH_ready (rs := [13]) (by kernel_rfl) (by simp) ?_
  refine AllReadyH.cons (o := ({ dst := some 18, op := Op.call { callee := Callee.value (Operand.func 20), args := #[Operand.tmp 17], argTypes := #[22] }, type := 25, pos := "law.go:13", after := #[{ on := 12, ground := Ground.data }, { on := 9, ground := Ground.chain }, { on := 9, ground := Ground.guard }], guard := some (9, true) } : Oper)) rfl (fun K hK => ?_) AllReadyH.nil
  go_simp
  (with_reducible refine (HR2.out _ _ HG12.out (HKT.out _ HB12.out)).mono ?_)
  rintro e u13 ⟨rfl, hb13⟩
  have HB13 := Lib.hid (HTR.out _ _ HB12.out hb13)
  clear hb13
  go_wp2_with fail
  refine hK.out _ _ (HSS.out _ HB13.out) (fun hHeld => ?_)
  clear hK K
  try simp only [Act.put, List.setIfInBounds_toArray, List.set_cons_zero, List.set_cons_succ]
  refine wpAnyH_ready (rs := [16]) (by kernel_rfl) (by simp) ?_
  refine AllReadyH.cons (o := ({ dst := some 21, op := Op.call { callee := Callee.value (Operand.func 24), args := #[Operand.tmp 19, Operand.tmp 20], argTypes := #[24, 24] }, type := 24, pos := "law.go:13", after := #[{ on := 14, ground := Ground.data }, { on := 15, ground := Ground.data }, { on := 13, ground := Ground.chain }, { on := 9, ground := Ground.guard }], guard := some (9, true) } : Oper)) rfl (fun K hK => ?_) AllReadyH.nil
  go_simp
  (with_reducible refine (HPA.out _).mono ?_)
  rintro e u16 ⟨rfl, hb16⟩
  have HB16 := Lib.hid (HTR.out _ _ HB13.out hb16)
  clear hb16
  go_wp2_with fail
  refine hK.out _ _ (HSS.out _ HB16.out) (fun hHeld => ?_)
  clear hK K
  try simp only [Act.put, List.setIfInBounds_toArray, List.set_cons_zero, List.set_cons_succ]
  refine wpAnyH_take (i := 17) (oi := ({ dst := some 22, op := Op.binOp BinOp.eql 25 (Operand.tmp 18) (Operand.tmp 21) 25, type := 4, pos := "law.go:13", after := #[{ on := 13, ground := Ground.data }, { on := 16, ground := Ground.data }, { on := 9, ground := Ground.guard }], guard := some (9, true) } : Oper)) (v := .bool true) rfl (by kernel_rfl) (by kernel_rfl) (by kernel_rfl) (fun _ _ _ h => h) (Or.inl ⟨by rfl, fun w hSw => by go_simp⟩) hHeld ?_
  simp only [Act.put, List.setIfInBounds_toArray, List.set_cons_zero, List.set_cons_succ]
  refine wpAnyH_take (i := 18) (oi := ({ dst := some 23, op := Op.pick (Operand.tmp 14) (Operand.tmp 22) (Operand.const (Value.bool false)), type := 4, pos := "law.go:13", after := #[{ on := 9, ground := Ground.data }, { on := 17, ground := Ground.data }], guard := none } : Oper)) (v := .bool true) rfl (by kernel_rfl) (by kernel_rfl) (by kernel_rfl) (fun _ _ _ h => h) (Or.inl ⟨by rfl, fun w hSw => by go_simp⟩) hHeld ?_
  simp only [Act.put, List.setIfInBounds_toArray, List.set_cons_zero, List.set_cons_succ]
  refine wpAnyH_take (i := 19) (oi := ({ dst := some 24, op := Op.move (Operand.tmp 23), type := 4, pos := "law.go:13", after := #[{ on := 18, ground := Ground.data }, { on := 16, ground := Ground.chain }], guard := none } : Oper)) (v := .bool true) rfl (by kernel_rfl) (by kernel_rfl) (by kernel_rfl) (fun _ _ _ h => h) (Or.inl ⟨by rfl, fun w hSw => by go_simp⟩) hHeld ?_
  simp only [Act.put, List.setIfInBounds_toArray, List.set_cons_zero, List.set_cons_succ]
  refine wpAnyH_take (i := 20) (oi := ({ dst := some 25, op := Op.load 25 (Operand.tmp 1), type := 25, pos := "law.go:13", after := #[{ on := 19, ground := Ground.guard }], guard := some (19, true) } : Oper)) (v := .agg A.toArray) rfl (by kernel_rfl) (by kernel_rfl) (by kernel_rfl) (fun _ _ _ h => h) (yieldsIf_load_mid (by rfl) _ _ rfl w.heap.size 0 rfl A _ (fun _ h => h.1) hu rfl hi1) hHeld ?_
  simp only [Act.put, List.setIfInBounds_toArray, List.set_cons_zero, List.set_cons_succ]
  refine wpAnyH_take (i := 21) (oi := ({ dst := some 26, op := Op.load 25 (Operand.tmp 1), type := 25, pos := "law.go:13", after := #[{ on := 19, ground := Ground.guard }], guard := some (19, true) } : Oper)) (v := .agg A.toArray) rfl (by kernel_rfl) (by kernel_rfl) (by kernel_rfl) (fun _ _ _ h => h) (yieldsIf_load_mid (by rfl) _ _ rfl w.heap.size 0 rfl A _ (fun _ h => h.1) hu rfl hi1) hHeld ?_
  simp only [Act.put, List.setIfInBounds_toArray, List.set_cons_zero, List.set_cons_succ]
  have HB22 := Lib.hid (HTR.out _ _ HB16.out (below_alloc (Below.refl u16.heap.size u16) (.cells (A ++ A).toArray 25)))
  have HG22 := Lib.hid (heap_alloc_new u16 (.cells (A ++ A).toArray 25))
  refine wpAnyH_ready (rs := [22]) (by kernel_rfl) (by simp) ?_
  refine AllReadyH.cons (o := ({ dst := some 27, op := Op.buildSlice 22 2 #[(0, Operand.tmp 25), (1, Operand.tmp 26)], type := 22, pos := "law.go:13", after := #[{ on := 20, ground := Ground.data }, { on := 21, ground := Ground.data }, { on := 19, ground := Ground.guard }], guard := some (19, true) } : Oper)) rfl (fun K hK => ?_) AllReadyH.nil
  go_simp
  refine hK.out _ _ (HSS.out _ HB22.out) (fun hHeld => ?_)
  clear hK K
  try simp only [Act.put, List.setIfInBounds_toArray, List.set_cons_zero, List.set_cons_succ]
  refine wpAnyH_ready (rs := [23]) (by kernel_rfl) (by simp) ?_
  refine AllReadyH.cons (o := ({ dst := some 28, op := Op.call { callee := Callee.value (Operand.func 26), args := #[Operand.tmp 27], argTypes := #[22] }, type := 4, pos := "law.go:13", after := #[{ on := 22, ground := Ground.data }, { on := 19, ground := Ground.chain }, { on := 19, ground := Ground.guard }], guard := some (19, true) } : Oper)) rfl (fun K hK => ?_) AllReadyH.nil
  go_simp
  (with_reducible refine (HDB.out _ _ HG22.out (HKT.out _ HB22.out)).mono ?_)
  rintro e u23 ⟨rfl, hb23⟩
  have HB23 := Lib.hid (HTR.out _ _ HB22.out hb23)
  clear hb23
  go_wp2_with fail
  refine hK.out _ _ (HSS.out _ HB23.out) (fun hHeld => ?_)
  clear hK K
  try simp only [Act.put, List.setIfInBounds_toArray, List.set_cons_zero, List.set_cons_succ]
  refine wpAnyH_take (i := 24) (oi := ({ dst := some 29, op := Op.pick (Operand.tmp 24) (Operand.tmp 28) (Operand.const (Value.bool false)), type := 4, pos := "law.go:13", after := #[{ on := 19, ground := Ground.data }, { on := 23, ground := Ground.data }], guard := none } : Oper)) (v := .bool true) rfl (by kernel_rfl) (by kernel_rfl) (by kernel_rfl) (fun _ _ _ h => h) (Or.inl ⟨by rfl, fun w hSw => by go_simp⟩) hHeld ?_
  simp only [Act.put, List.setIfInBounds_toArray, List.set_cons_zero, List.set_cons_succ]
  refine wpAnyH_take (i := 25) (oi := ({ dst := some 0, op := Op.assign (Operand.tmp 29), type := 4, pos := "law.go:13", after := #[{ on := 24, ground := Ground.data }, { on := 23, ground := Ground.chain }, { on := 0, ground := Ground.phase }, { on := 1, ground := Ground.phase }, { on := 2, ground := Ground.phase }, { on := 3, ground := Ground.phase }, { on := 4, ground := Ground.phase }, { on := 5, ground := Ground.phase }, { on := 6, ground := Ground.phase }, { on := 7, ground := Ground.phase }, { on := 8, ground := Ground.phase }, { on := 9, ground := Ground.phase }, { on := 10, ground := Ground.phase }, { on := 11, ground := Ground.phase }, { on := 12, ground := Ground.phase }, { on := 13, ground := Ground.phase }, { on := 14, ground := Ground.phase }, { on := 15, ground := Ground.phase }, { on := 16, ground := Ground.phase }, { on := 17, ground := Ground.phase }, { on := 18, ground := Ground.phase }, { on := 19, ground := Ground.phase }, { on := 20, ground := Ground.phase }, { on := 21, ground := Ground.phase }, { on := 22, ground := Ground.phase }, { on := 23, ground := Ground.phase }, { on := 24, ground := Ground.phase }], guard := none } : Oper)) (v := .bool true) rfl (by kernel_rfl) (by kernel_rfl) (by kernel_rfl) (fun _ _ _ h => h) (Or.inl ⟨by rfl, fun w hSw => by go_simp⟩) hHeld ?_
  simp only [Act.put, List.setIfInBounds_toArray, List.set_cons_zero, List.set_cons_succ]
  refine wpAnyH_done (by kernel_rfl) ?_ _
  clear q1 q2
  go_wp2
  go_ret
  exact ⟨rfl, HBW.out.trans (Below.mono HB23.out HBW.out.size)⟩
end Go.Proofs.YtlmcdkjobdcflaaDoor.Hand

/- The laws MerkleRoots and MerkleDoubled: walked. -/
namespace Go.Proofs.YtlmcdkjobdcflaaDoor.Hand
open Go Go.RowKit Go.Proofs.YtlmcdkjobdcflaaDoor.Plain Go.Proofs.YtlmcdkjobdcflaaDoor.PAll Go.Proofs.YtlmcdkjobdcflaaDoorW.PrintWords Go.Proofs.YtlmcdkjobdcflaaDoorW.PrintLast Go.Proofs.YtlmcdkjobdcflaaDoorW.PrintMore
set_option linter.unusedVariables false
set_option linter.unusedSimpArgs false
set_option maxRecDepth 100000
theorem Hs_of {w : World} {A : Option Addr} {xs : List (List Int)} (h : Kd.C kH w A xs.length xs) (ok : ∀ x ∈ xs, ∀ y ∈ x, (Lit.int .u8 y).wf = true) : Hs xs := by
  intro p hp
  obtain ⟨i, hi, rfl⟩ := List.mem_iff_getElem.1 hp
  obtain ⟨b, o, _, _, hrg⟩ := C_hash h (by omega)
  have h1 := (hrg i hi).2
  rw [rdH_eq hi] at h1
  exact ⟨h1, Plain.wf_u8s (ok _ (List.getElem_mem hi))⟩
set_option maxHeartbeats 2000000 in
theorem rootsl_calls (A : Option Addr) (n c : Nat) (xs : List (List Int)) (w : World) (hn : n = xs.length) (hr : Kd.C kH w A n xs) (hc : n ≤ c) (hH : Hs xs) (hK : KT w) :
    Calls Tryd.prog 3 #[.slice A n c] w fun e w' => e = .returned (.bool true) ∧ Below w.heap.size w w' := by
  have hm := Kd.C_max hr
  have HAW := Lib.hid (fun (u : World) (hu : Below w.heap.size w u) => awake8_calls u (hK.below hu (Nat.le_refl _)))
  by_cases hl : 20 < n
  · clear hn hr hH hK
    go_enter Tryd.func3, Tryd.ntmps3
    go_wp2_with fail
    refine (HAW.out _ (Below.refl _ _)).mono ?_
    rintro e w1 ⟨rfl, hb⟩
    go_wp2_with fail
    go_ret
    exact ⟨rfl, hb⟩
  · have HRO := Lib.hid (root_calls A n c xs w hn hr hc (by omega) hH hK)
    have HRF := Lib.hid (fun (u : World) (hu : Below w.heap.size w u) => refs_calls A n c xs u hn (Kd.C_below hr hu) hc (by omega) hH)
    have q0 := fun u => eqH (rootP xs) (rootP xs) (rootP_hash hH).1 (rootP_hash hH).1 u
    simp only [beq_self_eq_true] at q0
    have HRR := Lib.hid (fun (A2 : Option Addr) (c2 : Nat) (u : World) (hr2 : Kd.C kH u A2 xs.length xs) (hc2 : xs.length ≤ c2) => rroot_calls A2 xs.length c2 xs u rfl hr2 hc2 (by omega) hH)
    obtain ⟨R, hR⟩ : ∃ R, (nums .u8 (rootP xs)).toArray = R := ⟨_, rfl⟩
    rw [hR] at HRO HRR q0
    have hl2 : ¬ (20 : Int) < (n : Int) := by omega
    clear hn hr hH hK hR
    go_enter Tryd.func3, Tryd.ntmps3
    go_wp2_with fail
    refine HRO.out.mono ?_
    rintro e w1 ⟨rfl, hb1⟩
    have HB1 := Lib.hid hb1
    clear hb1
    go_wp2_with fail
    refine (HRF.out _ HB1.out).mono ?_
    rintro e w2 ⟨v, rfl, hv, hb2⟩
    obtain ⟨A2, c2, rfl, hc2, hC2⟩ := Kd.R_reads hv
    have HB2 := Lib.hid (HB1.out.trans (Below.mono hb2 HB1.out.size))
    have HR2 := Lib.hid (HRR.out A2 c2 w2 hC2 hc2)
    clear hv hb2 hc2 hC2
    obtain ⟨n2, hn2⟩ : ∃ n2, xs.length = n2 := ⟨_, rfl⟩
    rw [hn2] at HR2 ⊢
    clear hn2
    go_wp2_with fail
    refine HR2.out.mono ?_
    rintro e w3 ⟨rfl, hb3⟩
    have HB3 := Lib.hid (HB2.out.trans (Below.mono hb3 HB2.out.size))
    clear hb3 HRR
    go_wp2_with fail
    refine (HAW.out _ HB3.out).mono ?_
    rintro e w4 ⟨rfl, hb4⟩
    have HB4 := Lib.hid (HB3.out.trans (Below.mono hb4 HB3.out.size))
    clear hb4
    go_wp2_with fail
    go_ret
    exact ⟨rfl, HB4.out⟩
end Go.Proofs.YtlmcdkjobdcflaaDoor.Hand
