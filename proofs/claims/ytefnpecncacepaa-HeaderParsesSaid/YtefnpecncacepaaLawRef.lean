/- The law's Ref: a header's document's form: walked. -/
import Derived.Test.YtefnpecncacepaaProg
import Derived.Below
import Derived.Deep.Draws
import Derived.Deep.AppendLies
import Derived.Maps.AppendAt
import Derived.OwnWalk
import Derived.Laws.BytesArg
import Derived.Laws.MakeOwn
import Derived.Laws.OwnMore
import Derived.Deep.OwnRows
import Derived.Tactics
import Derived.Lib.ConvBytes
import Derived.Laws.Slices
import Derived.WalkKit
import Derived.KernelRfl
import Derived.RowKit3
import Derived.Deep.LoopGhost
import Derived.Deep.QuietTactic
import Derived.BigQuiet
import Derived.WideLaws
import Derived.Deep.DeepCutAuto
import Derived.Deep.CutBlock
import Derived.Deep.RegionHeld3
import Derived.Laws.Rows
import Derived.Lib.AppendStr
import Derived.ArgAppend
import Derived.Laws.IdiomCopy
import Derived.OrdersHeld
import Derived.Laws.BitsLemmas
import Derived.RowKit
import Derived.StillTailTactics
import Derived.Test.YtefnpecncacepaaWWords
import Derived.Test.YtefnpecncacepaaWLast
import Derived.Test.YtefnpecncacepaaWMore
import Derived.Lib.Hide
import Derived.LaidEql
import Derived.Outline
import Derived.Deep.MidRow
import Derived.Deep.WholeRow
import Derived.Test.YtefnpecncacepaaHHash
namespace Go.Proofs.Ytefnpecncacepaa.Hand
open Go Go.RowKit Go.Proofs.Ytefnpecncacepaa.Plain Go.Proofs.Ytefnpecncacepaa.PAll Go.Proofs.YtefnpecncacepaaW.PrintWords Go.Proofs.YtefnpecncacepaaW.PrintLast Go.Proofs.YtefnpecncacepaaW.PrintMore
set_option linter.unusedVariables false
set_option linter.unusedSimpArgs false
set_option maxRecDepth 100000
theorem built_ref (v : Int) (p r : List Int) (t b n : Int) (hp : p.length = 32) (hr : r.length = 32) : Try.prog.built 33 [(0, .int .u32 v), (1, .agg (nums .u8 p).toArray), (2, .agg (nums .u8 r).toArray), (3, .int .u32 t), (4, .int .u32 b), (5, .int .u32 n)] = some (hcells v p r t b n).toArray := by
  obtain ⟨x0, x1, x2, x3, x4, x5, x6, x7, x8, x9, x10, x11, x12, x13, x14, x15, x16, x17, x18, x19, x20, x21, x22, x23, x24, x25, x26, x27, x28, x29, x30, x31, rfl⟩ := list32 p hp
  obtain ⟨y0, y1, y2, y3, y4, y5, y6, y7, y8, y9, y10, y11, y12, y13, y14, y15, y16, y17, y18, y19, y20, y21, y22, y23, y24, y25, y26, y27, y28, y29, y30, y31, rfl⟩ := list32 r hr
  kernel_rfl
theorem infoR : (Try.prog.info? 33).map (fun i => (i.zero, i.size)) = some (some (.agg (hcells 0 z32 z32 0 0 0).toArray), 68) := by kernel_rfl
/-- The two hashes in a header's cells. -/
theorem hash_ranges {w : World} {bx : Nat} {tt : TypeId} (v : Int) (p r : List Int) (t b n : Int) (hp : p.length = 32) (h : w.heap[bx]? = some (.cells (hcells v p r t b n).toArray tt (0, 0))) :
    w.rangeAt bx 1 (nums .u8 p) ∧ w.rangeAt bx 33 (nums .u8 r) := by
  have hl : (nums .u8 p).length = 32 := by simp [nums, hp]
  refine ⟨fun j u hj => ?_, fun j u hj => ?_⟩
  · have hlt := (List.getElem?_eq_some_iff.1 hj).1
    rw [blk_cell h, List.getElem?_toArray]
    unfold hcells
    rw [Nat.add_comm 1 j, List.getElem?_cons_succ, List.getElem?_append_left hlt]
    exact hj
  · have hlt := (List.getElem?_eq_some_iff.1 hj).1
    rw [blk_cell h, List.getElem?_toArray]
    unfold hcells
    rw [show 33 + j = (32 + j) + 1 by omega, List.getElem?_cons_succ, List.getElem?_append_right (by omega), hl, show 32 + j - 32 = j by omega, List.getElem?_append_left hlt]
    exact hj
set_option maxHeartbeats 1000000 in
theorem lref_calls (v : Int) (p r : List Int) (t b n : Int) (w : World) (hp : p.length = 32) (hr : r.length = 32) :
    Calls Try.prog 6 #[hV v p r t b n] w fun e w' => e = .returned (hV v p r t b n) ∧ Below w.heap.size w w' := by
  have hbr := built_ref v p r t b n hp hr
  have hz := (zero_of_info infoR).1
  have hr32 := hash_ranges (w := (w.alloc (.cells (hcells v p r t b n).toArray 28)).alloc (.cells (hcells 0 z32 z32 0 0 0).toArray 33)) v p r t b n hp (heap_alloc2_old w _ _)
  obtain ⟨a5, a6, a7⟩ := hcells_at v p r t b n hp hr
  have a0 := hcells_at0 v p r t b n
  have hsz : (Try.prog.info? 33).map (·.size) = some (hcells v p r t b n).toArray.size := by
    rw [(zero_of_info infoR).2]
    simp [hcells_len v p r t b n hp hr]
  have hone := hcells_one v p r t b n
  have hzs : (hcells 0 z32 z32 0 0 0).toArray.size = (hcells v p r t b n).toArray.size := by
    simp [hcells_len v p r t b n hp hr, hcells_len 0 z32 z32 0 0 0 (by simp [z32]) (by simp [z32])]
  have hl1 : (nums .u8 p).length = 32 := by simp [nums, hp]
  have hl2 : (nums .u8 r).length = 32 := by simp [nums, hr]
  unfold hV
  obtain ⟨C, hC⟩ : ∃ C, (hcells v p r t b n).toArray = C := ⟨_, rfl⟩
  obtain ⟨Z, hZ⟩ : ∃ C, (hcells 0 z32 z32 0 0 0).toArray = C := ⟨_, rfl⟩
  obtain ⟨P, hP⟩ : ∃ C, nums .u8 p = C := ⟨_, rfl⟩
  obtain ⟨R, hR⟩ : ∃ C, nums .u8 r = C := ⟨_, rfl⟩
  rw [hC, hZ, hP, hR] at hr32
  rw [hP, hR, hC] at hbr
  rw [hZ] at hz
  rw [hC] at hsz hone a0 a5 a6 a7
  rw [hC, hZ] at hzs
  rw [hP] at hl1
  rw [hR] at hl2
  rw [hC]
  have hk := heap_alloc2_old w (.cells C 28) (.cells Z 33)
  have hkz := heap_alloc2_new w (.cells C 28) (.cells Z 33)
  have k0 := (blk_cell hk 0).trans a0
  have k65 := (blk_cell hk 65).trans a5
  have k66 := (blk_cell hk 66).trans a6
  have k67 := (blk_cell hk 67).trans a7
  have HX := Lib.hid (And.intro hr32 (And.intro hbr (And.intro hsz (And.intro hone (And.intro hzs hkz)))))
  have HL := Lib.hid (And.intro (show (Try.prog.info? 26).map (·.size) = some P.length by rw [hl1]; exact (zero_of_info infoHash).2) (And.intro (show (Try.prog.info? 26).map (·.size) = some R.length by rw [hl2]; exact (zero_of_info infoHash).2) Try.underlying26))
  have HB := Lib.hid (below_alloc (below_alloc (Below.refl w.heap.size w) (.cells C 28)) (.cells Z 33))
  have HUR := Lib.hid Try.underlying33
  clear hbr hr32 hsz hone hzs hl1 hl2 a0 a5 a6 a7 hC hZ hP hR hk hkz hp hr
  go_enter Try.func6, Try.ntmps6
  go_wp2_with (first
    | ((with_reducible show wpList _ _ _ (Oper.mk _ (Op.load _ (.tmp 5)) _ _ _ _ :: _) _ _); (go_loud (refine wpList_load_mid rfl 26 (.tmp 5) rfl w.heap.size 1 rfl P _ HX.out.1.1 HL.out.2.2 rfl HL.out.1 ?_)))
    | ((with_reducible show wpList _ _ _ (Oper.mk _ (Op.load _ (.tmp 7)) _ _ _ _ :: _) _ _); (go_loud (refine wpList_load_mid rfl 26 (.tmp 7) rfl w.heap.size 33 rfl R _ HX.out.1.2 HL.out.2.2 rfl HL.out.2.1 ?_)))
    | ((with_reducible show wpList _ _ _ (Oper.mk _ (Op.build _ _) _ _ _ _ :: _) _ _); (go_loud (refine wpl_build rfl 33 _ rfl #[(0, .int .u32 v), (1, .agg P.toArray), (2, .agg R.toArray), (3, .int .u32 t), (4, .int .u32 b), (5, .int .u32 n)] (by simp [Act.eval]) C HX.out.2.1 ?_)))
    | ((with_reducible show wpList _ _ _ (Oper.mk _ (Op.store _ _ _) _ _ _ _ :: _) _ _); (go_loud (refine wpList_store_row rfl 33 (.tmp 2) (.tmp 15) rfl (w.heap.size + 1) C rfl rfl 33 Z HX.out.2.2.2.2.2 HX.out.2.2.1 HX.out.2.2.2.2.1 HX.out.2.2.2.1 ?_))))
  exact bodyPost_ret (results_cell_row rfl _ _ (w.heap.size + 1) 33 C (0, 0) _ rfl (setRow_heap _ _ _ _ _ _ HX.out.2.2.2.2.2) HUR.out rfl HX.out.2.2.1) rfl ⟨rfl, below_setRow HB.out (by omega) _⟩
end Go.Proofs.Ytefnpecncacepaa.Hand
