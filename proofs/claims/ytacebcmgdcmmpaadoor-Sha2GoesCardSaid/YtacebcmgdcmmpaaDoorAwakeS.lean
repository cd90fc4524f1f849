/- The document's example: the answer is true. -/
import Derived.Test.YtacebcmgdcmmpaaDoorProg
import Derived.Below
import Derived.Deep.Draws
import Derived.Deep.AppendLies
import Derived.Maps.AppendAt
import Derived.OwnWalk
import Derived.Laws.BytesArg
import Derived.Laws.MakeOwn
import Derived.Laws.OwnMore
import Derived.Deep.OwnRows
import Derived.Tactics
import Derived.Lib.ConvBytes
import Derived.Laws.Slices
import Derived.WalkKit
import Derived.KernelRfl
import Derived.RowKit3
import Derived.Deep.LoopGhost
import Derived.Deep.QuietTactic
import Derived.BigQuiet
import Derived.WideLaws
import Derived.Deep.DeepCutAuto
import Derived.Deep.CutBlock
import Derived.Deep.RegionHeld3
import Derived.Laws.Rows
import Derived.Lib.AppendStr
import Derived.ArgAppend
import Derived.Laws.IdiomCopy
import Derived.OrdersHeld
import Derived.Laws.BitsLemmas
import Derived.RowKit
import Derived.StillTailTactics
import Derived.Test.YtacebcmgdcmmpaaDoorWWords
import Derived.Test.YtacebcmgdcmmpaaDoorWLast
import Derived.Test.YtacebcmgdcmmpaaDoorWMore
import Derived.Lib.Hide
import Derived.LaidEql
import Derived.Outline
import Derived.Lib.SlBytesConst
import Derived.Test.YtacebcmgdcmmpaaDoorSumL
namespace Go.Proofs.YtacebcmgdcmmpaaDoor.Hand
open Go Go.RowKit Go.Proofs.YtacebcmgdcmmpaaDoor.Plain Go.Proofs.YtacebcmgdcmmpaaDoor.PAll Go.Proofs.YtacebcmgdcmmpaaDoorW.PrintWords Go.Proofs.YtacebcmgdcmmpaaDoorW.PrintLast Go.Proofs.YtacebcmgdcmmpaaDoorW.PrintMore
set_option linter.unusedVariables false
set_option linter.unusedSimpArgs false
theorem abc_sum : rd (sumP [97, 98, 99]) 0 = 186 ∧ rd (sumP [97, 98, 99]) 1 = 120 ∧ rd (sumP [97, 98, 99]) 30 = 21 ∧ rd (sumP [97, 98, 99]) 31 = 173 := by decide +kernel
theorem blk_lt' {w : World} {b : Nat} {o : Obj} (h : w.heap[b]? = some o) : b < w.heap.size := (Array.getElem?_eq_some_iff.1 h).1
theorem blk_alloc' {w : World} {b : Nat} {o : Obj} (h : w.heap[b]? = some o) (o' : Obj) : (w.alloc o').heap[b]? = some o := by
  rw [(below_alloc (Below.refl w.heap.size w) o').block b (blk_lt' h)]
  exact h
theorem rd_cell {S : List Int} {j : Nat} (h : j < S.length) : (nums .u8 S).toArray[j]? = some (.int .u8 (rd S (j : Int))) := by
  simp [nums, rd, h]
set_option maxHeartbeats 1000000 in
set_option maxRecDepth 100000 in
theorem awake_calls (w : World) (hK : KT w) : Calls Tryd.prog 11 #[] w fun e w' => e = .returned (.bool true) ∧ Below w.heap.size w w' := by
  have kc := fun (w : World) (C : Array Value) (n c : Nat) => Lib.run_convert_bytes_const (P := Tryd.prog) w 27 5 C n c Tryd.underlying27 Tryd.underlying5
  have hz31 := (zero_of_info infoHash).1
  obtain ⟨Z0, hZ0⟩ : ∃ C, (nums .u8 (List.replicate 32 0)).toArray = C := ⟨_, rfl⟩
  rw [hZ0] at hz31
  have HK := Lib.hid hK
  obtain ⟨S, hS⟩ : ∃ S, sumP [97, 98, 99] = S := ⟨_, rfl⟩
  have hab := abc_sum
  rw [hS] at hab
  have hl : S.length = 32 := by rw [← hS]; exact sumP_len _
  obtain ⟨RA, hRA⟩ : ∃ R, (nums .u8 S).toArray = R := ⟨_, rfl⟩
  have HRS := Lib.hid (show (Tryd.prog.info? 31).map (·.size) = some RA.size ∧ Z0.size = RA.size ∧ RA.all (·.oneCell') = true by
    have h : RA.size = 32 := by rw [← hRA, nums_size]; exact hl
    exact ⟨by rw [h]; exact (zero_of_info infoHash).2, by rw [h, ← hZ0]; rfl, by rw [← hRA]; exact all_oneCell_toArray (nums_one _ _)⟩)
  have HAT := Lib.hid (show RA[0]? = some (.int .u8 186) ∧ RA[1]? = some (.int .u8 120) ∧ RA[30]? = some (.int .u8 21) ∧ RA[31]? = some (.int .u8 173) from by
    rw [← hRA, ← hab.1, ← hab.2.1, ← hab.2.2.1, ← hab.2.2.2]
    exact ⟨rd_cell (j := 0) (by omega), rd_cell (j := 1) (by omega), rd_cell (j := 30) (by omega), rd_cell (j := 31) (by omega)⟩)
  have HRA := Lib.hid (show (nums .u8 (sumP [97, 98, 99])).toArray = RA by rw [hS, hRA])
  clear hK hZ0 hS hab hl hRA
  go_enter Tryd.func11, Tryd.ntmps11
  go_wp2_with fail
  have hold := blk_alloc' (heap_alloc_new w (.cells #[.int .u8 97, .int .u8 98, .int .u8 99] 5 (3, 4))) (.cells #[.slice (some ⟨w.heap.size, 0, none⟩) 3 3] 27)
  have hnew := heap_alloc_new (w.alloc (.cells #[.int .u8 97, .int .u8 98, .int .u8 99] 5 (3, 4))) (.cells #[.slice (some ⟨w.heap.size, 0, none⟩) 3 3] 27)
  rw [World.size_alloc] at hnew
  have hba : Below w.heap.size w ((w.alloc (.cells #[.int .u8 97, .int .u8 98, .int .u8 99] 5 (3, 4))).alloc (.cells #[.slice (some ⟨w.heap.size, 0, none⟩) 3 3] 27)) := below_alloc (below_alloc (Below.refl _ _) _) _
  have hC := C_of_block (pre := []) (post := []) (k := .u8) (ys := [97, 98, 99]) (o := 0) hold rfl (by decide)
  have hs := sums_calls (some ⟨w.heap.size + 1, 0, none⟩) 1 1 [[97, 98, 99]] _ rfl (C_one hnew (by decide) hC) (by decide) (by decide) (by decide) (HK.out.below hba (Nat.le_refl _))
  rw [show [[(97 : Int), 98, 99]].flatten = [97, 98, 99] from rfl, HRA.out] at hs
  have HS := Lib.hid hs
  have HB := Lib.hid hba
  clear hold hnew hba hC hs
  refine HS.out.mono ?_
  rintro e w1 ⟨rfl, hb1⟩
  have HB1 := Lib.hid (HB.out.trans (Below.mono hb1 HB.out.size))
  clear hb1 HS
  have hn := heap_alloc_new w1 (.cells RA 31)
  have c0 := (blk_cell hn 0).trans HAT.out.1
  have c1 := (blk_cell hn 1).trans HAT.out.2.1
  have c30 := (blk_cell hn 30).trans HAT.out.2.2.1
  have c31 := (blk_cell hn 31).trans HAT.out.2.2.2
  have HBF := Lib.hid (HB1.out.alloc HB1.out.size (.cells RA 31))
  clear hn
  go_wp2_with ((with_reducible show wpList _ _ _ (Oper.mk _ (Op.store _ _ _) _ _ _ _ :: _) _ _); (go_loud (refine wpl_store_new rfl 31 (.tmp 1) (.tmp 5) rfl Z0 RA rfl rfl HRS.out.1 HRS.out.2.1 HRS.out.2.2 ?_)))
  go_ret
  exact ⟨rfl, HBF.out⟩
end Go.Proofs.YtacebcmgdcmmpaaDoor.Hand
