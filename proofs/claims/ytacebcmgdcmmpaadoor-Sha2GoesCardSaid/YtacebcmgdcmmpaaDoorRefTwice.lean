/- The document's double sum: walked. -/
import Derived.Test.YtacebcmgdcmmpaaDoorProg
import Derived.Below
import Derived.Deep.Draws
import Derived.Deep.AppendLies
import Derived.Maps.AppendAt
import Derived.OwnWalk
import Derived.Laws.BytesArg
import Derived.Laws.MakeOwn
import Derived.Laws.OwnMore
import Derived.Deep.OwnRows
import Derived.Tactics
import Derived.Lib.ConvBytes
import Derived.Laws.Slices
import Derived.WalkKit
import Derived.KernelRfl
import Derived.RowKit3
import Derived.Deep.LoopGhost
import Derived.Deep.QuietTactic
import Derived.BigQuiet
import Derived.WideLaws
import Derived.Deep.DeepCutAuto
import Derived.Deep.CutBlock
import Derived.Deep.RegionHeld3
import Derived.Laws.Rows
import Derived.Lib.AppendStr
import Derived.ArgAppend
import Derived.Laws.IdiomCopy
import Derived.OrdersHeld
import Derived.Laws.BitsLemmas
import Derived.RowKit
import Derived.StillTailTactics
import Derived.Test.YtacebcmgdcmmpaaDoorWWords
import Derived.Test.YtacebcmgdcmmpaaDoorWLast
import Derived.Test.YtacebcmgdcmmpaaDoorWMore
import Derived.Lib.Hide
import Derived.Outline
import Derived.Test.YtacebcmgdcmmpaaDoorRefSum2
namespace Go.Proofs.YtacebcmgdcmmpaaDoor.Hand
open Go Go.RowKit Go.Proofs.YtacebcmgdcmmpaaDoor.Plain Go.Proofs.YtacebcmgdcmmpaaDoor.PAll Go.Proofs.YtacebcmgdcmmpaaDoorW.PrintWords Go.Proofs.YtacebcmgdcmmpaaDoorW.PrintLast Go.Proofs.YtacebcmgdcmmpaaDoorW.PrintMore
set_option linter.unusedVariables false
set_option linter.unusedSimpArgs false
theorem arr32b : Tryd.prog.underlying 30 = some (.array (Tryd.prog.arrayLen 30) (Tryd.prog.elem 30)) ∧ Tryd.prog.arrayLen 30 = 32 := ⟨by kernel_rfl, by kernel_rfl⟩
theorem slice_all32 (W : World) (g : Nat) : (Instr.sliceAt 30 (.pointer (some ⟨g, 0, none⟩)) none none none).run Tryd.prog W = .ok (.slice (some ⟨g, 0, none⟩) 32 32) W := by
  rw [run_sliceAt_array_all W 30 ⟨g, 0, none⟩ arr32b.1]
  have z : (sizeOf (Tryd.prog.elem 30)).run Tryd.prog W = .ok 1 W := by rfl
  rw [z, arr32b.2]
  rfl
set_option maxHeartbeats 1000000 in
set_option maxRecDepth 100000 in
theorem rtwice_calls (bs : List Int) (w : World) (hl : bs.length ≤ 800000) (hb : ∀ x ∈ bs, 0 ≤ x ∧ x < 256) :
    Calls Tryd.prog 19 #[.string (strOfNums bs)] w fun e w' => e = .returned (.agg (nums .u8 (twiceP bs)).toArray) ∧ Below w.heap.size w w' := by
  have hz30 := (zero_of_info info32b).1
  obtain ⟨Z0, hZ0⟩ : ∃ C, (nums .u8 (List.replicate 32 0)).toArray = C := ⟨_, rfl⟩
  rw [hZ0] at hz30
  have HU30 := Lib.hid Tryd.underlying30
  have HS := Lib.hid (fun W => rsum_calls bs W hl hb)
  obtain ⟨S1, hS1⟩ : ∃ S, sumP bs = S := ⟨_, rfl⟩
  have hl1 : S1.length = 32 := by rw [← hS1]; exact sumP_len _
  have hb1 : ∀ x ∈ S1, 0 ≤ x ∧ x < 256 := by rw [← hS1]; exact sumP_bytes _
  obtain ⟨S2, hS2⟩ : ∃ S, twiceP bs = S := ⟨_, rfl⟩
  have hS2' : sumP S1 = S2 := by rw [← hS2, ← hS1]; rfl
  have hl2 : S2.length = 32 := by rw [← hS2']; exact sumP_len _
  rw [hS1] at HS
  rw [hS2]
  obtain ⟨RA, hRA⟩ : ∃ R, (nums .u8 S1).toArray = R := ⟨_, rfl⟩
  rw [hRA] at HS
  obtain ⟨RB, hRB⟩ : ∃ R, (nums .u8 S2).toArray = R := ⟨_, rfl⟩
  rw [hRB]
  have h32 : ∀ S : List Int, S.length = 32 → (Tryd.prog.info? 30).map (·.size) = some (nums .u8 S).toArray.size ∧ Z0.size = (nums .u8 S).toArray.size ∧ (nums .u8 S).toArray.all (·.oneCell') = true := fun S hS => by
    have h : (nums .u8 S).toArray.size = 32 := by rw [nums_size]; exact hS
    exact ⟨by rw [h]; exact (zero_of_info info32b).2, by rw [h, ← hZ0]; rfl, all_oneCell_toArray (nums_one _ _)⟩
  have HRA := Lib.hid (hRA ▸ h32 S1 hl1)
  have HRB := Lib.hid (hRB ▸ h32 S2 hl2)
  have HS1 := Lib.hid (And.intro hl1 (And.intro hb1 (And.intro hRA (And.intro hS2' hRB))))
  obtain ⟨T, hT⟩ : ∃ T, strOfNums bs = T := ⟨_, rfl⟩
  rw [hT] at HS ⊢
  have HS2 := Lib.hid (fun W => (show Calls Tryd.prog 13 #[.string (strOfNums S1)] W fun e w' => e = .returned (.agg RB) ∧ Below W.heap.size W w' from by
    have h := rsum_calls S1 W (by omega) hb1
    rwa [hS2', hRB] at h))
  obtain ⟨T1, hT1⟩ : ∃ T, strOfNums S1 = T := ⟨_, rfl⟩
  rw [hT1] at HS2
  have HT1 := Lib.hid hT1
  clear hS1 hl1 hb1 hS2 hS2' hl2 hRA hRB h32 hZ0 hT hT1
  go_enter Tryd.func19, Tryd.ntmps19
  go_wp2_with fail
  refine (HS.out _).mono ?_
  rintro e w1 ⟨rfl, hb1⟩
  have HZ1 := Lib.hid ((hb1.block w.heap.size (by rw [World.size_alloc]; omega)).trans (heap_alloc_new w (.cells Z0 30)))
  have HB1 := Lib.hid ((below_alloc (Below.refl w.heap.size w) (.cells Z0 30)).trans (Below.mono hb1 (by rw [World.size_alloc]; omega)))
  have HW1 := Lib.hid (show w.heap.size < w1.heap.size from Nat.lt_of_lt_of_le (by rw [World.size_alloc]; omega) hb1.size)
  have hs := fun W => slice_all32 W w1.heap.size
  have hn := heap_alloc_new w1 (.cells RA 30)
  have hC := C_of_block (pre := []) (post := []) (k := .u8) (ys := S1) (o := 0) (t := 30) (fr := (0, 0)) (w := w1.alloc (.cells RA 30)) (b := w1.heap.size) (by rw [List.nil_append, List.append_nil, HS1.out.2.2.1]; exact hn) rfl (by rw [HS1.out.1]; decide)
  have hcv := Kd.C_string (P := Tryd.prog) (c := 32) Tryd.underlying27 Tryd.underlying5 Tryd.underlying9 hC
  rw [HS1.out.1, HT1.out] at hcv
  have HZ2 := Lib.hid (blk_alloc HZ1.out (.cells RA 30))
  have HB2 := Lib.hid (HB1.out.alloc (Nat.le_of_lt HW1.out) (.cells RA 30))
  clear hb1 hn hC
  go_wp2_with ((with_reducible show wpList _ _ _ (Oper.mk _ (Op.store _ _ _) _ _ _ _ :: _) _ _); (go_loud (refine wpl_store_new rfl 30 (.tmp 3) (.tmp 5) rfl Z0 RA rfl rfl HRA.out.1 HRA.out.2.1 HRA.out.2.2 ?_)))
  refine (HS2.out _).mono ?_
  rintro e w5 ⟨rfl, hb5⟩
  have HZ5 := Lib.hid ((hb5.block w.heap.size (blk_lt HZ2.out)).trans HZ2.out)
  have HB5 := Lib.hid (HB2.out.trans (Below.mono hb5 HB2.out.size))
  clear hb5 HS2 hs hcv
  go_wp2_with ((with_reducible show wpList _ _ _ (Oper.mk _ (Op.store _ _ _) _ _ _ _ :: _) _ _); (go_loud (refine wpList_store_row rfl 30 (.tmp 2) (.tmp 8) rfl w.heap.size RB rfl rfl 30 Z0 HZ5.out HRB.out.1 HRB.out.2.1 HRB.out.2.2 ?_)))
  exact bodyPost_ret (results_cell_row rfl _ _ w.heap.size 30 RB (0, 0) _ rfl (setRow_heap _ _ _ _ _ _ HZ5.out) HU30.out rfl HRB.out.1) rfl ⟨rfl, below_setRow HB5.out (Nat.le_refl _) _⟩
end Go.Proofs.YtacebcmgdcmmpaaDoor.Hand
