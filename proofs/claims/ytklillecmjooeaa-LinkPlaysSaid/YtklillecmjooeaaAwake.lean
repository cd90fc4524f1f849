/- The document's example of the link: the answer is true. -/
import Derived.Test.YtklillecmjooeaaProg
import Derived.Below
import Derived.Deep.Draws
import Derived.Deep.AppendLies
import Derived.Maps.AppendAt
import Derived.OwnWalk
import Derived.Laws.BytesArg
import Derived.Laws.MakeOwn
import Derived.Laws.OwnMore
import Derived.Deep.OwnRows
import Derived.Tactics
import Derived.Lib.ConvBytes
import Derived.Laws.Slices
import Derived.WalkKit
import Derived.KernelRfl
import Derived.RowKit3
import Derived.Deep.LoopGhost
import Derived.Deep.QuietTactic
import Derived.BigQuiet
import Derived.WideLaws
import Derived.Deep.DeepCutAuto
import Derived.Deep.CutBlock
import Derived.Deep.RegionHeld3
import Derived.Laws.Rows
import Derived.Lib.AppendStr
import Derived.ArgAppend
import Derived.Laws.IdiomCopy
import Derived.OrdersHeld
import Derived.Laws.BitsLemmas
import Derived.RowKit
import Derived.StillTailTactics
import Derived.Test.YtklillecmjooeaaWWords
import Derived.Test.YtklillecmjooeaaWLast
import Derived.Test.YtklillecmjooeaaWMore
import Derived.Lib.Hide
import Derived.LaidEql
import Derived.Outline
import Derived.Lib.SlBytesConst
import Derived.Test.YtklillecmjooeaaArrays
import Derived.Test.YtklillecmjooeaaSend
import Derived.Test.YtklillecmjooeaaDrop
namespace Go.Proofs.Ytklillecmjooeaa.Hand
open Go Go.RowKit Go.Proofs.Ytklillecmjooeaa.Plain Go.Proofs.Ytklillecmjooeaa.PAll Go.Proofs.YtklillecmjooeaaW.PrintWords Go.Proofs.YtklillecmjooeaaW.PrintLast Go.Proofs.YtklillecmjooeaaW.PrintMore
set_option linter.unusedVariables false
set_option linter.unusedSimpArgs false
theorem awake_a : (strOfNums [97]).toList = ([97] : List UInt8) := by decide +kernel
theorem awake_b : (strOfNums [98]).toList = ([98] : List UInt8) := by decide +kernel
set_option maxHeartbeats 4000000 in
set_option maxRecDepth 100000 in
theorem awake_calls (w : World) : Calls Try.prog 7 #[] w fun e w' => e = .returned (.bool true) ∧ Below w.heap.size w w' := by
  have kc := fun (w : World) (C : Array Value) (n c : Nat) => Lib.run_convert_bytes_const (P := Try.prog) w 27 5 C n c Try.underlying27 Try.underlying5
  go_enter Try.func7, Try.ntmps7
  go_wp2_with fail
  refine (lnew_calls _).mono ?_
  rintro e w1 ⟨rfl, hw, hb⟩
  have HW := Lib.hid hw
  have HB := Lib.hid hb
  clear hw hb
  go_wp2_with fail
  refine (lsend_calls (some ⟨w1.heap.size, 0, none⟩) 1 1 [97] 1 (HW.out.alloc (.cells #[.int .u8 97] 5 (1, 2))) rfl (C_of_block (pre := []) (post := []) (t := 5) (fr := (1, 2)) (by simpa [nums] using heap_alloc_new w1 _) rfl (by decide)) (by decide) (by decide) (by decide)).mono ?_
  rintro e w2 ⟨rfl, hw, hb, _⟩
  have HW2 : Hid (IsL w2 w.heap.size w.heap.size [⟨[97], 1⟩]) := Lib.hid hw
  have HB2 := Lib.hid ((below_alloc HB.out (.cells #[.int .u8 97] 5 (1, 2))).trans hb)
  rw [show sendE ([97] : List Int).length ([] : List S49).length = 0 from rfl]
  clear hw hb HW HB
  go_wp2_with fail
  refine (lsend_calls (some ⟨w2.heap.size, 0, none⟩) 1 1 [98] 2 (HW2.out.alloc (.cells #[.int .u8 98] 5 (1, 2))) rfl (C_of_block (pre := []) (post := []) (t := 5) (fr := (1, 2)) (by simpa [nums] using heap_alloc_new w2 _) rfl (by decide)) (by decide) (by decide) (by decide)).mono ?_
  rintro e w3 ⟨rfl, hw, hb, _⟩
  have HW3 : Hid (IsL w3 w.heap.size w.heap.size [⟨[97], 1⟩, ⟨[98], 2⟩]) := Lib.hid hw
  have HB3 := Lib.hid ((below_alloc HB2.out (.cells #[.int .u8 98] 5 (1, 2))).trans hb)
  rw [show sendE ([98] : List Int).length ([⟨[97], 1⟩] : List S49).length = 0 from rfl]
  clear hw hb HW2 HB2
  go_wp2_with fail
  refine (ltake_some (-1) 1 HW3.out (by decide) (by decide) (by decide) (by decide)).mono ?_
  rintro e w4 ⟨v1, rfl, hv, hw, hb, _⟩
  have HV1 : Hid (Kd.R (Kd.int .u8) 5 w4 w.heap.size (fun k => k ≠ w.heap.size ∧ some k ≠ rowAt w4 w.heap.size) v1 [98]) := Lib.hid hv
  have HW4 : Hid (IsL w4 w.heap.size w.heap.size [⟨[97], 1⟩]) := Lib.hid hw
  have HB4 := Lib.hid (HB3.out.trans hb)
  clear hv hw hb HW3 HB3
  go_wp2_with fail
  refine (ltake_some 7 0 HW4.out (by decide) (by decide) (by decide) (by decide)).mono ?_
  rintro e w5 ⟨v2, rfl, hv, hw, hb, hk⟩
  have hcv1 := own_string (P := Try.prog) Try.underlying27 Try.underlying5 Try.underlying9 (Kd.own_of_R (R_ck HV1.out hk))
  have hcv2 := own_string (P := Try.prog) Try.underlying27 Try.underlying5 Try.underlying9 (Kd.own_of_R (show Kd.R (Kd.int .u8) 5 w5 w.heap.size _ v2 [97] from hv))
  have ht1 := beq_iff_eq.mpr awake_b
  have ht2 := beq_iff_eq.mpr awake_a
  generalize hs1 : strOfNums [98] = s1 at hcv1 ht1
  generalize hs2 : strOfNums [97] = s2 at hcv2 ht2
  have HB5 := Lib.hid (HB4.out.trans hb)
  clear hv hw hb hk hs1 hs2 HW4 HB4 HV1
  go_wp2
  go_ret
  exact ⟨rfl, HB5.out⟩
end Go.Proofs.Ytklillecmjooeaa.Hand
