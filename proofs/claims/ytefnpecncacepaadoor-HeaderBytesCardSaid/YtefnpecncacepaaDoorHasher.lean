/- The hasher: made, written to. -/
import Derived.Test.YtefnpecncacepaaDoorProg
import Derived.Below
import Derived.Deep.Draws
import Derived.Deep.AppendLies
import Derived.Maps.AppendAt
import Derived.OwnWalk
import Derived.Laws.BytesArg
import Derived.Laws.MakeOwn
import Derived.Laws.OwnMore
import Derived.Deep.OwnRows
import Derived.Tactics
import Derived.Lib.ConvBytes
import Derived.Laws.Slices
import Derived.WalkKit
import Derived.KernelRfl
import Derived.RowKit3
import Derived.Deep.LoopGhost
import Derived.Deep.QuietTactic
import Derived.BigQuiet
import Derived.WideLaws
import Derived.Deep.DeepCutAuto
import Derived.Deep.CutBlock
import Derived.Deep.RegionHeld3
import Derived.Laws.Rows
import Derived.Lib.AppendStr
import Derived.ArgAppend
import Derived.Laws.IdiomCopy
import Derived.OrdersHeld
import Derived.Laws.BitsLemmas
import Derived.RowKit
import Derived.StillTailTactics
import Derived.Test.YtefnpecncacepaaDoorWWords
import Derived.Test.YtefnpecncacepaaDoorWLast
import Derived.Test.YtefnpecncacepaaDoorWMore
import Derived.Lib.Hide
import Derived.Outline
import Derived.StillTailTactics
import Derived.Deep.MidRow
import Derived.Deep.WholeRow
import Derived.Deep.RegionLaw
import Derived.Laws.Tables
import Derived.Deep.DrawnRows
import Derived.Test.YtefnpecncacepaaDoorArrays
import Derived.Test.YtefnpecncacepaaDoorHashPlain
namespace Go.Proofs.YtefnpecncacepaaDoor.Hand
open Go Go.RowKit Go.Proofs.YtefnpecncacepaaDoor.Plain Go.Proofs.YtefnpecncacepaaDoor.PAll Go.Proofs.YtefnpecncacepaaDoorW.PrintWords Go.Proofs.YtefnpecncacepaaDoorW.PrintLast Go.Proofs.YtefnpecncacepaaDoorW.PrintMore
set_option linter.unusedVariables false
set_option linter.unusedSimpArgs false
set_option maxRecDepth 100000
def words (s : St) : List Value := [.int .u32 s.a, .int .u32 s.b, .int .u32 s.c, .int .u32 s.d, .int .u32 s.e, .int .u32 s.f, .int .u32 s.g, .int .u32 s.h]
theorem words_s8 (s : St) : (words s).toArray = s8 s := rfl
theorem words_one (s : St) : ∀ v ∈ words s, v.oneCell' = true := by simp [words, Value.oneCell']
def hCells (s : St) (blk : List Int) (n : Int) : List Value := words s ++ (nums .u8 blk ++ [.int .i64 n])
def z64 : List Int := List.replicate 64 0
theorem hc_len {s : St} {blk : List Int} {n : Int} (h : blk.length = 64) : (hCells s blk n).length = 73 := by simp [hCells, words, nums, h]
theorem hc_n {s : St} {blk : List Int} {n : Int} (h : blk.length = 64) : (hCells s blk n).toArray[72]? = some (.int .i64 n) := by
  unfold hCells
  rw [List.getElem?_toArray, List.getElem?_append_right (by simp [words]), List.getElem?_append_right (by simp [words, nums, h])]
  simp [words, nums, h]
theorem hc_setn {s : St} {blk : List Int} {n m : Int} (h : blk.length = 64) : (hCells s blk n).toArray.setIfInBounds 72 (.int .i64 m) = (hCells s blk m).toArray := by
  unfold hCells
  have h1 : (words s).length = 8 := rfl
  have h2 : (nums .u8 blk).length = 64 := by simp [nums, h]
  rw [List.setIfInBounds_toArray, List.set_append_right _ _ (by omega), List.set_append_right _ _ (by omega), h1, h2]
  rfl
theorem hc_splice {s : St} {blk zs : List Int} {n : Int} {o : Nat} (h : blk.length = 64) (ho : o + zs.length ≤ 64) : (hCells s blk n).toArray.toList.take (8 + o) ++ (nums .u8 zs ++ (hCells s blk n).toArray.toList.drop (8 + o + (nums .u8 zs).length)) = hCells s (putB blk o zs) n := by
  have h1 : (words s).length = 8 := rfl
  have h2 : (nums .u8 blk).length = 64 := by simp [nums, h]
  have h3 : (nums .u8 zs).length = zs.length := by simp [nums]
  show (hCells s blk n).take (8 + o) ++ (nums .u8 zs ++ (hCells s blk n).drop (8 + o + (nums .u8 zs).length)) = _
  unfold hCells putB
  rw [h3, List.take_append, List.drop_append, h1, List.take_of_length_le (by omega), List.drop_of_length_le (l := words s) (by omega), List.take_append, List.drop_append, h2]
  rw [show 8 + o - 8 - 64 = 0 by omega, List.take_zero, List.append_nil, show 8 + o - 8 = o by omega, show 8 + o + zs.length - 8 = o + zs.length by omega, show o + zs.length - 64 = 0 by omega, List.drop_zero]
  simp [nums, List.map_append, List.map_take, List.map_drop]
theorem info_h : (Tryd.prog.info? 105).map (fun i => (i.zero, i.size)) = some (some (.agg (hCells ⟨0, 0, 0, 0, 0, 0, 0, 0⟩ z64 0).toArray), 73) := by kernel_rfl
theorem info_b64 : (Tryd.prog.info? 103).map (·.size) = some 64 := by kernel_rfl
theorem built_new : Tryd.prog.built 105 [(0, .agg (s8 F0))] = some (hCells F0 z64 0).toArray := by kernel_rfl
/-- A hasher that was given a text. -/
def IsH (w : World) (B g : Nat) (bs : List Int) : Prop := B ≤ g ∧ ∃ blk, IsBlk bs blk ∧ w.heap[g]? = some (.cells (hCells (stOf bs) blk (bs.length : Int)).toArray 105 (0, 0))
theorem IsH.lt {w : World} {B g : Nat} {bs : List Int} (h : IsH w B g bs) : g < w.heap.size := by
  obtain ⟨_, blk, _, hb⟩ := h
  exact blk_lt hb
theorem IsH.keep {w w' : World} {B g : Nat} {bs : List Int} (h : IsH w B g bs) (hk : w'.heap[g]? = w.heap[g]?) : IsH w' B g bs := by
  obtain ⟨h0, blk, h1, hb⟩ := h
  exact ⟨h0, blk, h1, hk.trans hb⟩
theorem IsH.below {w w' : World} {B g : Nat} {bs : List Int} (h : IsH w B g bs) (hb : Below w.heap.size w w') : IsH w' B g bs := h.keep (hb.block g h.lt)
theorem isBlk_nil : IsBlk [] z64 := ⟨by simp [z64], by intro x hx; simp [z64] at hx; omega, by simp⟩
set_option maxHeartbeats 1000000 in
set_option maxRecDepth 100000 in
theorem first_calls (w : World) :
    Calls Tryd.prog 61 #[] w fun e w' => e = .returned (.agg (s8 F0)) ∧ Below w.heap.size w w' := by
  have hz := (zero_of_info info8).1
  obtain ⟨Z, hZ⟩ : ∃ Z, s8 ⟨0, 0, 0, 0, 0, 0, 0, 0⟩ = Z := ⟨_, rfl⟩
  rw [hZ] at hz
  obtain ⟨V, hV⟩ : ∃ V, s8 F0 = V := ⟨_, rfl⟩
  have HB := Lib.hid (s8_build 1779033703 3144134277 1013904242 2773480762 1359893119 2600822924 528734635 1541459225)
  have hV2 : s8 ⟨1779033703, 3144134277, 1013904242, 2773480762, 1359893119, 2600822924, 528734635, 1541459225⟩ = V := hV
  rw [hV2] at HB
  rw [hV]
  have HS := Lib.hid (show (Tryd.prog.info? 95).map (·.size) = some V.size ∧ Z.size = V.size ∧ V.all (·.oneCell') = true by
    rw [← hV, ← hZ]
    exact ⟨s8_size _, rfl, s8_one _⟩)
  clear hZ hV hV2
  go_enter Tryd.func61, Tryd.ntmps61
  go_wp2_with (first | ((with_reducible show wpList _ _ _ (Oper.mk _ (Op.build _ _) _ _ _ _ :: _) _ _); (go_loud (refine wpl_build rfl 95 _ rfl #[(0, .int .u32 1779033703), (1, .int .u32 3144134277), (2, .int .u32 1013904242), (3, .int .u32 2773480762), (4, .int .u32 1359893119), (5, .int .u32 2600822924), (6, .int .u32 528734635), (7, .int .u32 1541459225)] (by simp [Act.eval]) V HB.out ?_))) | ((with_reducible show wpList _ _ _ (Oper.mk _ (Op.store _ _ _) _ _ _ _ :: _) _ _); (go_loud (refine wpl_store_new rfl 95 (.tmp 0) (.tmp 1) rfl Z V rfl rfl HS.out.1 HS.out.2.1 HS.out.2.2 ?_))))
  exact bodyPost_ret (results_cell_row rfl _ _ w.heap.size 95 V (0, 0) _ rfl (heap_alloc_new w _) Tryd.underlying95 rfl HS.out.1) rfl ⟨rfl, below_alloc (Below.refl _ _) _⟩
set_option maxHeartbeats 1000000 in
set_option maxRecDepth 100000 in
theorem new_calls (w : World) :
    Calls Tryd.prog 51 #[] w fun e w' => ∃ g, e = .returned (.pointer (some ⟨g, 0, none⟩)) ∧ IsH w' w.heap.size g [] ∧ Below w.heap.size w w' := by
  obtain ⟨V, hV⟩ : ∃ V, s8 F0 = V := ⟨_, rfl⟩
  obtain ⟨C, hC⟩ : ∃ C, (hCells F0 z64 0).toArray = C := ⟨_, rfl⟩
  have HB := Lib.hid built_new
  rw [hV, hC] at HB
  have HC := Lib.hid hC
  have HV := Lib.hid hV
  clear hV hC
  go_enter Tryd.func51, Tryd.ntmps51
  go_wp2_with fail
  refine (first_calls _).mono ?_
  rw [HV.out]
  rintro e w1 ⟨rfl, hb1⟩
  have HB1 := Lib.hid hb1
  clear hb1
  go_wp2_with ((with_reducible show wpList _ _ _ (Oper.mk _ (Op.build _ _) _ _ _ _ :: _) _ _); (go_loud (refine wpl_build rfl 105 _ rfl #[(0, .agg V)] (by simp [Act.eval]) C HB.out ?_)))
  refine bodyPost_ret (v := .pointer (some ⟨w1.heap.size, 0, none⟩)) (by simp [results, Tryd.results51, go_sem]) rfl ?_
  refine ⟨_, rfl, ⟨HB1.out.size, z64, isBlk_nil, ?_⟩, HB1.out.alloc HB1.out.size _⟩
  rw [heap_alloc_new, ← HC.out]
  rfl
end Go.Proofs.YtefnpecncacepaaDoor.Hand
