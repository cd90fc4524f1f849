/- The document's sum: walked. -/
import Derived.Test.YtacebcmgdcmmpaaDoorProg
import Derived.Below
import Derived.Deep.Draws
import Derived.Deep.AppendLies
import Derived.Maps.AppendAt
import Derived.OwnWalk
import Derived.Laws.BytesArg
import Derived.Laws.MakeOwn
import Derived.Laws.OwnMore
import Derived.Deep.OwnRows
import Derived.Tactics
import Derived.Lib.ConvBytes
import Derived.Laws.Slices
import Derived.WalkKit
import Derived.KernelRfl
import Derived.RowKit3
import Derived.Deep.LoopGhost
import Derived.Deep.QuietTactic
import Derived.BigQuiet
import Derived.WideLaws
import Derived.Deep.DeepCutAuto
import Derived.Deep.CutBlock
import Derived.Deep.RegionHeld3
import Derived.Laws.Rows
import Derived.Lib.AppendStr
import Derived.ArgAppend
import Derived.Laws.IdiomCopy
import Derived.OrdersHeld
import Derived.Laws.BitsLemmas
import Derived.RowKit
import Derived.StillTailTactics
import Derived.Test.YtacebcmgdcmmpaaDoorWWords
import Derived.Test.YtacebcmgdcmmpaaDoorWLast
import Derived.Test.YtacebcmgdcmmpaaDoorWMore
import Derived.Lib.Hide
import Derived.Outline
import Derived.Deep.MidRow
import Derived.Deep.WholeRow
import Derived.Laws.Tables
import Derived.Test.YtacebcmgdcmmpaaDoorOwnB
import Derived.Test.YtacebcmgdcmmpaaDoorStep2
import Derived.Test.YtacebcmgdcmmpaaDoorAwakeS
namespace Go.Proofs.YtacebcmgdcmmpaaDoor.Hand
open Go Go.RowKit Go.Proofs.YtacebcmgdcmmpaaDoor.Plain Go.Proofs.YtacebcmgdcmmpaaDoor.PAll Go.Proofs.YtacebcmgdcmmpaaDoorW.PrintWords Go.Proofs.YtacebcmgdcmmpaaDoorW.PrintLast Go.Proofs.YtacebcmgdcmmpaaDoorW.PrintMore
set_option linter.unusedVariables false
set_option linter.unusedSimpArgs false
def preP (bs : List Int) (m : Nat) : List Int := bs ++ (128 :: List.replicate m 0)
theorem preP_len (bs : List Int) (m : Nat) : (preP bs m).length = bs.length + 1 + m := by
  simp [preP]
  omega
theorem preP_step (bs : List Int) (m : Nat) : preP bs (m + 1) = preP bs m ++ [0] := by
  simp [preP, List.replicate_succ']
theorem preP_pad (bs : List Int) : preP bs (padZ bs.length) ++ great 8 (8 * bs.length) = padB bs := rfl
theorem great_take (N k : Nat) (hk : k < 8) : (great 8 N).take (k + 1) = (great 8 N).take k ++ [((N / 256 ^ (7 - k) % 256 : Nat) : Int)] := by
  have h : great 8 N = [((N / 256 ^ 7 % 256 : Nat) : Int), ((N / 256 ^ 6 % 256 : Nat) : Int), ((N / 256 ^ 5 % 256 : Nat) : Int), ((N / 256 ^ 4 % 256 : Nat) : Int), ((N / 256 ^ 3 % 256 : Nat) : Int), ((N / 256 ^ 2 % 256 : Nat) : Int), ((N / 256 ^ 1 % 256 : Nat) : Int), ((N / 256 ^ 0 % 256 : Nat) : Int)] := by
    simp [great, digs, Nat.div_div_eq_div_mul]
  rw [h]
  match k, hk with
  | 0, _ => rfl
  | 1, _ => rfl
  | 2, _ => rfl
  | 3, _ => rfl
  | 4, _ => rfl
  | 5, _ => rfl
  | 6, _ => rfl
  | 7, _ => rfl
theorem great4 {x : Int} (h : Wd x) : great 4 x.toNat = [x / 16777216, x / 65536 % 256, x / 256 % 256, x % 256] := by
  obtain ⟨n, rfl⟩ := Int.eq_ofNat_of_zero_le h.1
  have h1 : (n : Int) < 4294967296 := h.2
  simp [great, digs, Nat.div_div_eq_div_mul]
  omega
theorem out_set (s : St) (n : Nat) (hn : n < 8) (a b c d : Int) (h : great 4 (s.at8 n).toNat = [a, b, c, d]) : ((((nums .u8 (outRow s n)).toArray.setIfInBounds (4 * n) (.int .u8 a)).setIfInBounds (4 * n + 1) (.int .u8 b)).setIfInBounds (4 * n + 2) (.int .u8 c)).setIfInBounds (4 * n + 3) (.int .u8 d) = (nums .u8 (outRow s (n + 1))).toArray := by
  have h1 : (nums .u8 (greats s n)).length = 4 * n := by simp [nums, greats_len]
  have h2 : nums .u8 (outRow s n) = nums .u8 (greats s n) ++ (.int .u8 0 :: .int .u8 0 :: .int .u8 0 :: .int .u8 0 :: List.replicate (28 - 4 * n) (.int .u8 0)) := by
    unfold outRow
    rw [show 32 - 4 * n = (28 - 4 * n) + 1 + 1 + 1 + 1 by omega]
    simp [nums, List.replicate_succ]
  have h3 : nums .u8 (outRow s (n + 1)) = nums .u8 (greats s n) ++ (.int .u8 a :: .int .u8 b :: .int .u8 c :: .int .u8 d :: List.replicate (28 - 4 * n) (.int .u8 0)) := by
    have hg : greats s (n + 1) = greats s n ++ great 4 (s.at8 n).toNat := rfl
    unfold outRow
    rw [hg, h, show 32 - 4 * (n + 1) = 28 - 4 * n by omega]
    simp [nums]
  rw [h2, h3]
  simp only [List.setIfInBounds_toArray]
  rw [List.set_append_right _ _ (by omega), h1, Nat.sub_self, List.set_append_right _ _ (by omega), h1, show 4 * n + 1 - 4 * n = 1 by omega, List.set_append_right _ _ (by omega), h1, show 4 * n + 2 - 4 * n = 2 by omega, List.set_append_right _ _ (by omega), h1, show 4 * n + 3 - 4 * n = 3 by omega]
  rfl
theorem up8 {w : World} {g : Nat} {t : TypeId} {s : St} {a b c d e f i j : Int} (h0 : w.heap[g]? = some (.cells (s8 s) t (0, 0))) :
    ((((((((w.setCell ⟨g, 0, none⟩ (.int .u32 a)).setCell ⟨g, 1, none⟩ (.int .u32 b)).setCell ⟨g, 2, none⟩ (.int .u32 c)).setCell ⟨g, 3, none⟩ (.int .u32 d)).setCell ⟨g, 4, none⟩ (.int .u32 e)).setCell ⟨g, 5, none⟩ (.int .u32 f)).setCell ⟨g, 6, none⟩ (.int .u32 i)).setCell ⟨g, 7, none⟩ (.int .u32 j)).heap[g]? = some (.cells (s8 ⟨a, b, c, d, e, f, i, j⟩) t (0, 0)) := by
  have h1 := blk_set h0 0 (.int .u32 a)
  have h2 := blk_set h1 1 (.int .u32 b)
  have h3 := blk_set h2 2 (.int .u32 c)
  have h4 := blk_set h3 3 (.int .u32 d)
  have h5 := blk_set h4 4 (.int .u32 e)
  have h6 := blk_set h5 5 (.int .u32 f)
  have h7 := blk_set h6 6 (.int .u32 i)
  have h8 := blk_set h7 7 (.int .u32 j)
  refine h8.trans ?_
  simp only [s8, List.setIfInBounds_toArray, List.set_cons_zero, List.set_cons_succ]
theorem upfar8 {w : World} {g k : Nat} {a b c d e f i j : Int} (h : k ≠ g) : ((((((((w.setCell ⟨g, 0, none⟩ (.int .u32 a)).setCell ⟨g, 1, none⟩ (.int .u32 b)).setCell ⟨g, 2, none⟩ (.int .u32 c)).setCell ⟨g, 3, none⟩ (.int .u32 d)).setCell ⟨g, 4, none⟩ (.int .u32 e)).setCell ⟨g, 5, none⟩ (.int .u32 f)).setCell ⟨g, 6, none⟩ (.int .u32 i)).setCell ⟨g, 7, none⟩ (.int .u32 j)).heap[k]? = w.heap[k]? := ((Below.heap_setCell _ ⟨g, 7, none⟩ _ k h).trans ((Below.heap_setCell _ ⟨g, 6, none⟩ _ k h).trans ((Below.heap_setCell _ ⟨g, 5, none⟩ _ k h).trans ((Below.heap_setCell _ ⟨g, 4, none⟩ _ k h).trans ((Below.heap_setCell _ ⟨g, 3, none⟩ _ k h).trans ((Below.heap_setCell _ ⟨g, 2, none⟩ _ k h).trans ((Below.heap_setCell _ ⟨g, 1, none⟩ _ k h).trans (Below.heap_setCell _ ⟨g, 0, none⟩ _ k h))))))))
theorem upbelow8 {w w0 : World} {g B : Nat} {a b c d e f i j : Int} (hb : Below B w0 w) (h : B ≤ g) : Below B w0 ((((((((w.setCell ⟨g, 0, none⟩ (.int .u32 a)).setCell ⟨g, 1, none⟩ (.int .u32 b)).setCell ⟨g, 2, none⟩ (.int .u32 c)).setCell ⟨g, 3, none⟩ (.int .u32 d)).setCell ⟨g, 4, none⟩ (.int .u32 e)).setCell ⟨g, 5, none⟩ (.int .u32 f)).setCell ⟨g, 6, none⟩ (.int .u32 i)).setCell ⟨g, 7, none⟩ (.int .u32 j)) := (Below.setCell (Below.setCell (Below.setCell (Below.setCell (Below.setCell (Below.setCell (Below.setCell (Below.setCell hb (p := ⟨g, 0, none⟩) h _) (p := ⟨g, 1, none⟩) h _) (p := ⟨g, 2, none⟩) h _) (p := ⟨g, 3, none⟩) h _) (p := ⟨g, 4, none⟩) h _) (p := ⟨g, 5, none⟩) h _) (p := ⟨g, 6, none⟩) h _) (p := ⟨g, 7, none⟩) h _)
theorem slice_first (W : World) (A : Option Addr) (m c : Nat) (hc : 64 ≤ c) : (Instr.sliceAt 27 (.slice A m c) none (some (.int .i64 64)) none).run Tryd.prog W = .ok (.slice A 64 c) W := by
  have hu : Tryd.prog.underlying 27 = some (.slice (Tryd.prog.elem 27)) := by kernel_rfl
  rw [run_sliceAt_slice W 27 _ _ _ _ hu, run_slice_h W 27 A m c hu .i64 64 (by omega) (by omega)]
  have z : (sizeOf (Tryd.prog.elem 27)).run Tryd.prog W = .ok 1 W := by rfl
  rw [z]
  have hA : A.map (fun x => x.add 0) = A := by cases A <;> simp [Addr.add]
  simp [sliced, Result.andThen, hA]
theorem info32b : (Tryd.prog.info? 30).map (fun i => (i.zero, i.size)) = some (some (.agg (nums .u8 (List.replicate 32 0)).toArray), 32) := by kernel_rfl
set_option maxHeartbeats 1000000 in
set_option maxRecDepth 100000 in
theorem rfirst_calls (w : World) :
    Calls Tryd.prog 24 #[] w fun e w' => e = .returned (.agg (s8 F0)) ∧ Below w.heap.size w w' := by
  have hz := (zero_of_info info8).1
  obtain ⟨Z, hZ⟩ : ∃ Z, s8 ⟨0, 0, 0, 0, 0, 0, 0, 0⟩ = Z := ⟨_, rfl⟩
  rw [hZ] at hz
  obtain ⟨V, hV⟩ : ∃ V, s8 F0 = V := ⟨_, rfl⟩
  have HB := Lib.hid (s8_build 1779033703 3144134277 1013904242 2773480762 1359893119 2600822924 528734635 1541459225)
  have hV2 : s8 ⟨1779033703, 3144134277, 1013904242, 2773480762, 1359893119, 2600822924, 528734635, 1541459225⟩ = V := hV
  rw [hV2] at HB
  rw [hV]
  have HS := Lib.hid (show (Tryd.prog.info? 23).map (·.size) = some V.size ∧ Z.size = V.size ∧ V.all (·.oneCell') = true by
    rw [← hV, ← hZ]
    exact ⟨s8_size _, rfl, s8_one _⟩)
  clear hZ hV hV2
  go_enter Tryd.func24, Tryd.ntmps24
  go_wp2_with (first | ((with_reducible show wpList _ _ _ (Oper.mk _ (Op.build _ _) _ _ _ _ :: _) _ _); (go_loud (refine wpl_build rfl 23 _ rfl #[(0, .int .u32 1779033703), (1, .int .u32 3144134277), (2, .int .u32 1013904242), (3, .int .u32 2773480762), (4, .int .u32 1359893119), (5, .int .u32 2600822924), (6, .int .u32 528734635), (7, .int .u32 1541459225)] (by simp [Act.eval]) V HB.out ?_))) | ((with_reducible show wpList _ _ _ (Oper.mk _ (Op.store _ _ _) _ _ _ _ :: _) _ _); (go_loud (refine wpl_store_new rfl 23 (.tmp 0) (.tmp 1) rfl Z V rfl rfl HS.out.1 HS.out.2.1 HS.out.2.2 ?_))))
  exact bodyPost_ret (results_cell_row rfl _ _ w.heap.size 23 V (0, 0) _ rfl (heap_alloc_new w _) Tryd.underlying23 rfl HS.out.1) rfl ⟨rfl, below_alloc (Below.refl _ _) _⟩
end Go.Proofs.YtacebcmgdcmmpaaDoor.Hand
