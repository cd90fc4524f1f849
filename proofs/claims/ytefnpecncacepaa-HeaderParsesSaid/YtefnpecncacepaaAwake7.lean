/- The headers' awake: walked. -/
import Derived.Test.YtefnpecncacepaaProg
import Derived.Below
import Derived.Deep.Draws
import Derived.Deep.AppendLies
import Derived.Maps.AppendAt
import Derived.OwnWalk
import Derived.Laws.BytesArg
import Derived.Laws.MakeOwn
import Derived.Laws.OwnMore
import Derived.Deep.OwnRows
import Derived.Tactics
import Derived.Lib.ConvBytes
import Derived.Laws.Slices
import Derived.WalkKit
import Derived.KernelRfl
import Derived.RowKit3
import Derived.Deep.LoopGhost
import Derived.Deep.QuietTactic
import Derived.BigQuiet
import Derived.WideLaws
import Derived.Deep.DeepCutAuto
import Derived.Deep.CutBlock
import Derived.Deep.RegionHeld3
import Derived.Laws.Rows
import Derived.Lib.AppendStr
import Derived.ArgAppend
import Derived.Laws.IdiomCopy
import Derived.OrdersHeld
import Derived.Laws.BitsLemmas
import Derived.RowKit
import Derived.StillTailTactics
import Derived.Test.YtefnpecncacepaaWWords
import Derived.Test.YtefnpecncacepaaWLast
import Derived.Test.YtefnpecncacepaaWMore
import Derived.Lib.Hide
import Derived.Outline
import Derived.Test.YtefnpecncacepaaHHash
namespace Go.Proofs.Ytefnpecncacepaa.Hand
open Go Go.RowKit Go.Proofs.Ytefnpecncacepaa.Plain Go.Proofs.Ytefnpecncacepaa.PAll Go.Proofs.YtefnpecncacepaaW.PrintWords Go.Proofs.YtefnpecncacepaaW.PrintLast Go.Proofs.YtefnpecncacepaaW.PrintMore
set_option linter.unusedVariables false
set_option linter.unusedSimpArgs false
set_option maxRecDepth 100000
theorem built_awake : Try.prog.built 28 [(4, .int .u32 545259519)] = some (hcells 0 z32 z32 0 545259519 0).toArray := by kernel_rfl
theorem awake_head : rdOf 0 (headB 0 z32 z32 0 545259519 0) 72 = 255 ∧ rdOf 0 (headB 0 z32 z32 0 545259519 0) 74 = 127 ∧ rdOf 0 (headB 0 z32 z32 0 545259519 0) 75 = 32 := by decide
set_option maxHeartbeats 1000000 in
theorem awake7_calls (w : World) : Calls Try.prog 4 #[] w fun e w' => e = .returned (.bool true) ∧ Below w.heap.size w w' := by
  have HBC := Lib.hid (hbytes_calls 0 z32 z32 0 545259519 0 w (by decide) (by decide) (by omega) (by omega) (by omega) (by omega) (by omega) (by omega) (by omega) (by omega))
  obtain ⟨k72, k74, k75⟩ := awake_head
  have hbl := headB_len 0 z32 z32 0 545259519 0 (by decide) (by decide)
  have hbu := built_awake
  unfold hV at HBC
  obtain ⟨C, hC⟩ : ∃ C, (hcells 0 z32 z32 0 545259519 0).toArray = C := ⟨_, rfl⟩
  rw [hC] at HBC hbu
  have HBU := Lib.hid hbu
  obtain ⟨HB, hHB⟩ : ∃ l, headB 0 z32 z32 0 545259519 0 = l := ⟨_, rfl⟩
  rw [hHB] at HBC hbl k72 k74 k75
  have HK := Lib.hid (And.intro hbl (And.intro k72 (And.intro k74 k75)))
  clear hC hHB hbl k72 k74 k75 hbu
  go_enter Try.func4, Try.ntmps4
  go_wp2_with ((with_reducible show wpList _ _ _ (Oper.mk _ (Op.build _ _) _ _ _ _ :: _) _ _); (go_loud (refine wpl_build rfl 28 _ rfl #[(4, .int .u32 545259519)] (by simp [Act.eval]) C HBU.out ?_)))
  refine HBC.out.mono ?_
  rintro e w1 ⟨x, rfl, hR, hb1⟩
  obtain ⟨g, cap, hv, hgb, hgl, -⟩ := Kd.R_form hR (by rw [HK.out.1]; decide)
  rw [HK.out.1] at hv
  subst hv
  have c72 := (Kd.R_celln (0 : Int) hR 72 (by omega) (by omega)).1
  have c74 := (Kd.R_celln (0 : Int) hR 74 (by omega) (by omega)).1
  have c75 := (Kd.R_celln (0 : Int) hR 75 (by omega) (by omega)).1
  rw [HK.out.2.1] at c72
  rw [HK.out.2.2.1] at c74
  rw [HK.out.2.2.2] at c75
  replace c72 : w1.cell? ⟨g, 72, none⟩ = some (.int .u8 255) := c72
  replace c74 : w1.cell? ⟨g, 74, none⟩ = some (.int .u8 127) := c74
  replace c75 : w1.cell? ⟨g, 75, none⟩ = some (.int .u8 32) := c75
  have HB1 := Lib.hid hb1
  clear hR hb1 hgb hgl
  go_wp2_with fail
  go_ret
  exact ⟨rfl, HB1.out⟩
end Go.Proofs.Ytefnpecncacepaa.Hand
