/- A transaction's id: walked (txn.Id). -/
import Derived.Test.YtpjkhecefppamaaDoorProg
import Derived.Below
import Derived.Deep.Draws
import Derived.Deep.AppendLies
import Derived.Maps.AppendAt
import Derived.OwnWalk
import Derived.Laws.BytesArg
import Derived.Laws.MakeOwn
import Derived.Laws.OwnMore
import Derived.Deep.OwnRows
import Derived.Tactics
import Derived.Lib.ConvBytes
import Derived.Laws.Slices
import Derived.WalkKit
import Derived.KernelRfl
import Derived.RowKit3
import Derived.Deep.LoopGhost
import Derived.Deep.QuietTactic
import Derived.BigQuiet
import Derived.WideLaws
import Derived.Deep.DeepCutAuto
import Derived.Deep.CutBlock
import Derived.Deep.RegionHeld3
import Derived.Laws.Rows
import Derived.Lib.AppendStr
import Derived.ArgAppend
import Derived.Laws.IdiomCopy
import Derived.OrdersHeld
import Derived.Laws.BitsLemmas
import Derived.RowKit
import Derived.StillTailTactics
import Derived.Test.YtpjkhecefppamaaDoorWWords
import Derived.Test.YtpjkhecefppamaaDoorWLast
import Derived.Test.YtpjkhecefppamaaDoorWMore
import Derived.Lib.Hide
import Derived.Outline
import Derived.Deep.MidRow
import Derived.Deep.WholeRow
import Derived.Test.YtpjkhecefppamaaDoorArrEq
import Derived.Test.YtpjkhecefppamaaDoorShaA
import Derived.Test.YtpjkhecefppamaaDoorLaidK
namespace Go.Proofs.YtpjkhecefppamaaDoor.Hand
open Go Go.RowKit Go.Proofs.YtpjkhecefppamaaDoor.Plain Go.Proofs.YtpjkhecefppamaaDoor.PAll Go.Proofs.YtpjkhecefppamaaDoorW.PrintWords Go.Proofs.YtpjkhecefppamaaDoorW.PrintLast Go.Proofs.YtpjkhecefppamaaDoorW.PrintMore
set_option linter.unusedVariables false
set_option linter.unusedSimpArgs false
set_option maxRecDepth 100000
attribute [local go_sem ↓] Go.wp_at_zero Go.wp_at_succ
attribute [-go_sem] loadVar storeVar Instr.buildSlice
theorem run_build1i (A : Option Addr) (m c : Nat) (W : World) : (Instr.buildSlice 78 1 #[(0, .slice A m c)]).run Tryd.prog W = .ok (.slice (some ⟨W.heap.size, 0, none⟩) 1 1) (W.alloc (.cells #[.slice A m c] 28)) := by kernel_rfl
set_option maxHeartbeats 4000000 in
theorem id_calls (A : Option Addr) (m c : Nat) (ys : List Int) (w : World) (hm : m = ys.length) (hc : m ≤ c) (hr : Kd.C (Kd.int .u8) w A m ys) (hb : ∀ x ∈ ys, 0 ≤ x ∧ x < 256) (hl : ys.length ≤ 900000) (hK : KT w) :
    Calls Tryd.prog 11 #[.slice A m c] w fun e w' => e = .returned (.agg (nums .u8 (twiceP ys)).toArray) ∧ Below w.heap.size w w' := by
  subst hm
  have hz := (zero_of_info infoHash).1
  obtain ⟨Z, hZ⟩ : ∃ C, (nums .u8 (List.replicate 32 0)).toArray = C := ⟨_, rfl⟩
  have hZs : Z.size = 32 := by rw [← hZ]; rfl
  rw [hZ] at hz
  have hk := heap_alloc_new w (.cells Z 42)
  have hb0 := below_alloc (Below.refl w.heap.size w) (.cells Z 42)
  obtain ⟨W0, hW0⟩ : ∃ W, w.alloc (.cells Z 42) = W := ⟨_, rfl⟩
  have hs0 : (w.alloc (.cells Z 42)).heap.size = w.heap.size + 1 := Array.size_push _
  rw [hW0] at hk hb0 hs0
  have hb1 := below_alloc hb0 (.cells #[.slice A ys.length c] 28)
  have hT := twice_calls (some ⟨w.heap.size + 1, 0, none⟩) 1 1 [ys] (W0.alloc (.cells #[.slice A ys.length c] 28)) rfl (C_one (A := A) (c := c) (ys := ys) (by rw [← hs0]; exact heap_alloc_new W0 _) hc (Kd.C_below hr hb1)) (by simpa using hb) (by simpa using hl) (by decide) (hK.below hb1 (Nat.le_refl _))
  rw [show [ys].flatten = ys by simp] at hT
  have hR1 := nums_one .u8 (twiceP ys)
  have hRl : (nums .u8 (twiceP ys)).length = 32 := by unfold nums; rw [List.length_map]; exact sumP_len _
  obtain ⟨R, hR⟩ : ∃ R, nums .u8 (twiceP ys) = R := ⟨_, rfl⟩
  rw [hR] at hR1 hRl hT ⊢
  have HT := Lib.hid hT
  have HK0 := Lib.hid hk
  have HB1 := Lib.hid (And.intro hb1 hb0)
  have HW0 := Lib.hid hW0
  have HS := Lib.hid (show (Tryd.prog.info? 42).map (·.size) = some R.toArray.size ∧ Z.size = R.toArray.size ∧ R.toArray.all (·.oneCell') = true from ⟨by rw [List.size_toArray, hRl]; exact (zero_of_info infoHash).2, by rw [hZs, List.size_toArray, hRl], all_oneCell_toArray hR1⟩)
  have HU := Lib.hid Tryd.underlying42
  have ht1 := fun A m c u => run_build1i A m c u
  clear hs0 hZ hZs hk hb0 hW0 hT hb1 hr hb hl hK hR hR1 hRl hc
  go_enter Tryd.func11, Tryd.ntmps11
  go_wp2_with fail
  rw [HW0.out]
  refine HT.out.mono ?_
  rintro e w3 ⟨rfl, hb3⟩
  have hk3 := (hb3.block _ (blk_lt (blk_alloc HK0.out _))).trans (blk_alloc HK0.out _)
  have HK3 := Lib.hid hk3
  have HB3 := Lib.hid (HB1.out.1.trans (Below.mono hb3 HB1.out.1.size))
  clear hb3 hk3
  go_wp2_with ((with_reducible show wpList _ _ _ (Oper.mk _ (Op.store _ (.tmp 2) _) _ _ _ _ :: _) _ _); (go_loud (refine wpList_store_row rfl 42 (.tmp 2) (.tmp 5) rfl w.heap.size R.toArray rfl rfl 42 Z HK3.out HS.out.1 HS.out.2.1 HS.out.2.2 ?_)))
  have hk4 := setRow_heap _ _ _ R.toArray _ _ HK3.out
  exact bodyPost_ret (results_cell_row rfl _ _ w.heap.size 42 R.toArray (0, 0) _ rfl hk4 HU.out rfl HS.out.1) rfl ⟨rfl, below_setRow HB3.out (Nat.le_refl _) R.toArray⟩
end Go.Proofs.YtpjkhecefppamaaDoor.Hand
