/- The document's example of the codec: the answer is true. -/
import Derived.Test.YtigmkbkmfhlimaaProg
import Derived.Below
import Derived.Deep.Draws
import Derived.Deep.AppendLies
import Derived.Maps.AppendAt
import Derived.OwnWalk
import Derived.Laws.BytesArg
import Derived.Laws.MakeOwn
import Derived.Laws.OwnMore
import Derived.Deep.OwnRows
import Derived.Tactics
import Derived.Lib.ConvBytes
import Derived.Laws.Slices
import Derived.WalkKit
import Derived.KernelRfl
import Derived.RowKit3
import Derived.Deep.LoopGhost
import Derived.Deep.QuietTactic
import Derived.BigQuiet
import Derived.WideLaws
import Derived.Deep.DeepCutAuto
import Derived.Deep.CutBlock
import Derived.Deep.RegionHeld3
import Derived.Laws.Rows
import Derived.Lib.AppendStr
import Derived.ArgAppend
import Derived.Laws.IdiomCopy
import Derived.OrdersHeld
import Derived.Laws.BitsLemmas
import Derived.RowKit
import Derived.StillTailTactics
import Derived.Test.YtigmkbkmfhlimaaWWords
import Derived.Test.YtigmkbkmfhlimaaWLast
import Derived.Test.YtigmkbkmfhlimaaWMore
import Derived.Lib.Hide
import Derived.LaidEql
import Derived.Outline
import Derived.Test.YtigmkbkmfhlimaaWriter
import Derived.Test.YtigmkbkmfhlimaaReader2
import Derived.Test.YtigmkbkmfhlimaaArrays
namespace Go.Proofs.Ytigmkbkmfhlimaa.Hand
open Go Go.RowKit Go.Proofs.Ytigmkbkmfhlimaa.Plain Go.Proofs.YtigmkbkmfhlimaaW.PrintWords Go.Proofs.YtigmkbkmfhlimaaW.PrintLast Go.Proofs.YtigmkbkmfhlimaaW.PrintMore
set_option linter.unusedVariables false
set_option linter.unusedSimpArgs false
theorem awake_str : (strOfNums ([] ++ varB 300)).toList = ([253, 44, 1] : List UInt8) := by decide +kernel
theorem awake_var : varR [253, 44, 1] 0 0 300 = (300, 3, 0) := by decide +kernel
set_option maxHeartbeats 2000000 in
set_option maxRecDepth 100000 in
theorem awake_calls (w : World) : Calls Try.prog 9 #[] w fun e w' => e = .returned (.bool true) ∧ Below w.heap.size w w' := by
  go_enter Try.func9, Try.ntmps9
  go_wp2_with fail
  refine (cnew_calls _).mono ?_
  rintro e w1 ⟨rfl, hw, hb⟩
  have HW := Lib.hid hw
  have HB := Lib.hid hb
  clear hw hb
  go_wp2_with fail
  refine (cvar_calls 300 HW.out (by decide)).mono ?_
  rintro e w2 ⟨rfl, hw, hb, _⟩
  have HW1 := Lib.hid hw
  have HB1 := Lib.hid (HB.out.trans hb)
  clear hw hb HW HB
  go_wp2_with fail
  refine (cof_calls (some ⟨w2.heap.size, 0, none⟩) 3 3 [253, 44, 1] _ rfl (C_of_block (pre := []) (post := []) (t := 5) (fr := (0, 0)) (by simpa [nums] using heap_alloc_new w2 _) rfl (by decide)) (by decide) (by decide)).mono ?_
  rintro e w3 ⟨g, rfl, hg, hr, hb⟩
  have HAL := below_alloc (Below.refl w2.heap.size w2) (.cells #[.int .u8 253, .int .u8 44, .int .u8 1] 5)
  have HW2 := Lib.hid ((HW1.out.alloc (.cells #[.int .u8 253, .int .u8 44, .int .u8 1] 5)).below hb)
  have HR := Lib.hid hr
  have HB2 := Lib.hid (HB1.out.trans (Below.mono (HAL.trans (Below.mono hb HAL.size)) HB1.out.size))
  have HSZ := Lib.hid (Nat.le_trans HB1.out.size HAL.size)
  clear hr hb hg HAL HW1 HB1
  go_wp2_with fail
  refine (cbytes_calls HW2.out (by decide)).mono ?_
  rintro e w4 ⟨v, rfl, hv, hb⟩
  have hcv := own_string (P := Try.prog) Try.underlying22 Try.underlying5 Try.underlying9 (Kd.own_of_R hv)
  have ht := beq_iff_eq.mpr awake_str
  generalize hs : strOfNums ([] ++ varB 300) = s at hcv ht
  have HR4 := Lib.hid (HR.out.later hb)
  have HB4 := Lib.hid (HB2.out.trans (Below.mono hb HB2.out.size))
  clear hb hs hv HB2 HR HW2
  go_wp2_with fail
  have hh := cvarr_calls (p := 0) HR4.out (by decide) (by decide) (by decide) 300
  rw [awake_var] at hh
  refine hh.mono ?_
  rintro e w5 ⟨rfl, _, hk⟩
  have HB5 := Lib.hid (HB4.out.trans (Below.mono hk.1 HSZ.out))
  clear hh hk hcv ht
  go_wp2
  go_ret
  exact ⟨rfl, HB5.out⟩
end Go.Proofs.Ytigmkbkmfhlimaa.Hand
