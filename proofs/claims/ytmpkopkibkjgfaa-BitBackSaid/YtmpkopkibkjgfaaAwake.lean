/- The document's example of the bit writer: the answer is true. -/
import Derived.Test.YtmpkopkibkjgfaaProg
import Derived.Below
import Derived.Deep.Draws
import Derived.Deep.AppendLies
import Derived.Maps.AppendAt
import Derived.OwnWalk
import Derived.Laws.BytesArg
import Derived.Laws.MakeOwn
import Derived.Laws.OwnMore
import Derived.Deep.OwnRows
import Derived.Tactics
import Derived.Lib.ConvBytes
import Derived.Laws.Slices
import Derived.WalkKit
import Derived.KernelRfl
import Derived.RowKit3
import Derived.Deep.LoopGhost
import Derived.Deep.QuietTactic
import Derived.BigQuiet
import Derived.WideLaws
import Derived.Deep.DeepCutAuto
import Derived.Deep.CutBlock
import Derived.Deep.RegionHeld3
import Derived.Laws.Rows
import Derived.Lib.AppendStr
import Derived.ArgAppend
import Derived.Laws.IdiomCopy
import Derived.OrdersHeld
import Derived.Laws.BitsLemmas
import Derived.RowKit
import Derived.StillTailTactics
import Derived.Test.YtmpkopkibkjgfaaWWords
import Derived.Test.YtmpkopkibkjgfaaWLast
import Derived.Test.YtmpkopkibkjgfaaWMore
import Derived.Lib.Hide
import Derived.LaidEql
import Derived.Outline
import Derived.Test.YtmpkopkibkjgfaaWriter2
namespace Go.Proofs.Ytmpkopkibkjgfaa.Hand
open Go Go.RowKit Go.Proofs.Ytmpkopkibkjgfaa.Plain Go.Proofs.YtmpkopkibkjgfaaW.PrintWords Go.Proofs.YtmpkopkibkjgfaaW.PrintLast Go.Proofs.YtmpkopkibkjgfaaW.PrintMore
attribute [local go_sem] max2_int min2_int max_two min_two max_three min_three max_four min_four
set_option linter.unusedVariables false
set_option linter.unusedSimpArgs false
theorem awake_bits : (strOfNums (pk ((([] ++ bitsOf (5 : Int).toNat (mn (mx 3 0) 64).toNat) ++ List.replicate (mn (mx 2 0) 65536).toNat true) ++ bitsOf (0 : Int).toNat (mn (mx 1 0) 64).toNat))).toList = ([184] : List UInt8) := by decide +kernel
theorem awake_len : (([] ++ bitsOf (5 : Int).toNat (mn (mx 3 0) 64).toNat) ++ List.replicate (mn (mx 2 0) 65536).toNat true ++ bitsOf (0 : Int).toNat (mn (mx 1 0) 64).toNat).length = 6 := by decide +kernel
set_option maxHeartbeats 2000000 in
set_option maxRecDepth 100000 in
theorem awake_calls (w : World) : Calls Try.prog 16 #[] w fun e w' => e = .returned (.bool true) ∧ Below w.heap.size w w' := by
  go_enter Try.func16, Try.ntmps16
  go_wp2_with fail
  refine (new_calls _).mono ?_
  rintro e w1 ⟨rfl, hw, hb⟩
  have HW := Lib.hid hw
  have HB := Lib.hid hb
  clear hw hb
  go_wp2_with fail
  refine (put_int 5 3 HW.out (by decide) (by decide) (by decide)).mono ?_
  rintro e w2 ⟨rfl, hw, hb, _⟩
  have HW1 := Lib.hid hw
  have HB1 := Lib.hid (HB.out.trans hb)
  clear hw hb HW HB
  go_wp2_with fail
  refine (ones_bits 2 HW1.out (by decide +kernel)).mono ?_
  rintro e w3 ⟨rfl, hw, hb, _⟩
  have HW := Lib.hid hw
  have HB := Lib.hid (HB1.out.trans hb)
  clear hw hb HW1 HB1
  go_wp2_with fail
  refine (put_int 0 1 HW.out (by decide) (by decide) (by decide +kernel)).mono ?_
  rintro e w4 ⟨rfl, hw, hb, _⟩
  have HW1 := Lib.hid hw
  have HB1 := Lib.hid (HB.out.trans hb)
  clear hw hb HW HB
  go_wp2_with fail
  refine (bytes_bits HW1.out (by rw [awake_len]; decide)).mono ?_
  rintro e w5 ⟨v, rfl, hv, hb⟩
  have hcv := own_string (P := Try.prog) Try.underlying34 Try.underlying5 Try.underlying9 (Kd.own_of_R hv)
  have ht := beq_iff_eq.mpr awake_bits
  generalize hs : strOfNums (pk _) = s at hcv ht
  have HW := Lib.hid (IsB.below HW1.out hb)
  have HB := Lib.hid (HB1.out.trans (Below.mono hb HB1.out.size))
  clear hb hs hv HW1 HB1
  go_wp2_with fail
  refine (len_bits HW.out).mono ?_
  rintro e w6 ⟨rfl, rfl⟩
  rw [awake_len]
  clear ht hcv
  go_wp2
  go_ret
  exact ⟨rfl, HB.out⟩
end Go.Proofs.Ytmpkopkibkjgfaa.Hand
