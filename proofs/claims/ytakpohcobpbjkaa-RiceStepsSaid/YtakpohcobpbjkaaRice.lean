/- rice.Put over the bit writer, and the document's example. -/
import Derived.Test.YtakpohcobpbjkaaProg
import Derived.Below
import Derived.Deep.Draws
import Derived.Deep.AppendLies
import Derived.Maps.AppendAt
import Derived.OwnWalk
import Derived.Laws.BytesArg
import Derived.Laws.MakeOwn
import Derived.Laws.OwnMore
import Derived.Deep.OwnRows
import Derived.Tactics
import Derived.Lib.ConvBytes
import Derived.Laws.Slices
import Derived.WalkKit
import Derived.KernelRfl
import Derived.RowKit3
import Derived.Deep.LoopGhost
import Derived.Deep.QuietTactic
import Derived.BigQuiet
import Derived.WideLaws
import Derived.Deep.DeepCutAuto
import Derived.Deep.CutBlock
import Derived.Deep.RegionHeld3
import Derived.Laws.Rows
import Derived.Lib.AppendStr
import Derived.ArgAppend
import Derived.Laws.IdiomCopy
import Derived.OrdersHeld
import Derived.Laws.BitsLemmas
import Derived.RowKit
import Derived.StillTailTactics
import Derived.Test.YtakpohcobpbjkaaWWords
import Derived.Test.YtakpohcobpbjkaaWLast
import Derived.Test.YtakpohcobpbjkaaWMore
import Derived.Lib.Hide
import Derived.LaidEql
import Derived.Outline
import Derived.Test.YtakpohcobpbjkaaWriter2
import Derived.Test.YtakpohcobpbjkaaRicePlain
namespace Go.Proofs.Ytakpohcobpbjkaa.Hand
open Go Go.RowKit Go.Proofs.Ytakpohcobpbjkaa.Plain Go.Proofs.Ytakpohcobpbjkaa.PAll Go.Proofs.YtakpohcobpbjkaaW.PrintWords Go.Proofs.YtakpohcobpbjkaaW.PrintLast Go.Proofs.YtakpohcobpbjkaaW.PrintMore
attribute [local go_sem] max2_int min2_int max_two min_two max_three min_three max_four min_four
set_option linter.unusedVariables false
set_option linter.unusedSimpArgs false
theorem held12_calls (p : Int) (w : World) : Calls Try.prog 26 #[.int .i64 p] w fun e w' => e = .returned (.int .i64 (hp p : Int)) ∧ w = w' := by
  obtain ⟨m, hm⟩ : ∃ m : Int, mx p 0 = m := ⟨_, rfl⟩
  have em : (if p < 0 then 0 else p) = m := hm
  have hr := hp_cast p
  rw [hm] at hr
  have ek : (if 32 < m then 32 else m) = (hp p : Int) := hr
  clear hm hr
  go_enter Try.func26, Try.ntmps26
  go_wp2
  go_ret
  exact ⟨rfl, rfl⟩
/-- What Put answers. -/
def putErr (p : Int) (n : Nat) : Int := if 65536 < n / 2 ^ hp p then 4 else 0
def putBits (p : Int) (n : Nat) : List Bool := if 65536 < n / 2 ^ hp p then [] else riceCode p n
set_option maxHeartbeats 2000000 in
set_option maxRecDepth 100000 in
theorem put12_calls {w : World} {B g : Nat} {l : List Bool} (p : Int) (n : Nat) (h : IsB w B g l) (hn : n < 18446744073709551616) (hl : l.length ≤ 800000000) :
    Calls Try.prog 13 #[.pointer (some ⟨g, 0, none⟩), .int .i64 p, .int .u64 n] w fun e w' => e = .returned (.int .i64 (putErr p n)) ∧ IsB w' B g (l ++ putBits p n) ∧ Below B w w' := by
  have HW := Lib.hid h
  have HL := Lib.hid hl
  have hq0 : (0 ≤ (hp p : Int)) = True := eq_true (Int.natCast_nonneg _)
  obtain ⟨q, hq⟩ : ∃ q : Nat, n / 2 ^ hp p = q := ⟨_, rfl⟩
  have hsh : ((n : Nat) : Int) / 2 ^ min (hp p) 64 = (q : Int) := by
    rw [Nat.min_eq_left (by have := hp_le p; omega), shr_nat, hq]
  have hqn : q < 18446744073709551616 := by have := q_lt p n; omega
  clear h hl
  by_cases hb : 65536 < q
  · have hbb : decide (65536 < (q : Int)) = true := decide_eq_true (by omega)
    have HE : Hid (putErr p n = 4) := Lib.hid (by unfold putErr; rw [if_pos (by omega)])
    have HP : Hid (putBits p n = []) := Lib.hid (by unfold putBits; rw [if_pos (by omega)])
    clear hq
    go_enter Try.func13, Try.ntmps13
    go_wp2_with fail
    refine (held12_calls p _).mono ?_
    rintro e w1 ⟨rfl, rfl⟩
    go_wp2
    go_ret
    exact ⟨by rw [HE.out]; rfl, by rw [HP.out, List.append_nil]; exact HW.out, Below.refl _ _⟩
  · have hbb : decide (65536 < (q : Int)) = false := decide_eq_false (by omega)
    have HE : Hid (putErr p n = 0) := Lib.hid (by unfold putErr; rw [if_neg (by omega)])
    have HP : Hid (putBits p n = (List.replicate q true ++ [false]) ++ bitsOf n (hp p)) := Lib.hid (by unfold putBits riceCode; rw [if_neg (by omega), hq])
    have hwq : IntKind.i64.wrap (q : Int) = (q : Int) := IntWalk.i64_in _ (by omega)
    have HMN : Hid ((mn (mx (q : Int) 0) 65536).toNat = q) := Lib.hid (by unfold mn mx; rw [if_neg (show ¬ (q : Int) < 0 by omega), if_neg (by omega)]; simp)
    have HMH : Hid ((mn (mx ((hp p : Nat) : Int) 0) 64).toNat = hp p) := Lib.hid (by have := hp_le p; unfold mn mx; rw [if_neg (show ¬ ((hp p : Nat) : Int) < 0 by omega), if_neg (by omega)]; simp)
    have HQ := Lib.hid (show q ≤ 65536 by omega)
    clear hq hb
    go_enter Try.func13, Try.ntmps13
    go_wp2_with fail
    refine (held12_calls p _).mono ?_
    rintro e w1 ⟨rfl, rfl⟩
    go_wp2_with fail
    refine (ones_bits (q : Int) HW.out (by have := HL.out; omega)).mono ?_
    rw [HMN.out]
    rintro e w2 ⟨rfl, hw2, hb2, hk2⟩
    have HW2 := Lib.hid hw2
    have HB2 := Lib.hid hb2
    clear hw2 hb2 hk2
    go_wp2_with fail
    refine (put_int 0 1 HW2.out (by omega) (by omega) (by have := HL.out; have := HQ.out; simp; omega)).mono ?_
    rintro e w3 ⟨rfl, hw3, hb3, hk3⟩
    have HW3 := Lib.hid (show IsB w3 B g (l ++ List.replicate q true ++ [false]) from hw3)
    have HB3 := Lib.hid (HB2.out.trans hb3)
    clear hw3 hb3 hk3 HW2 HB2
    go_wp2_with fail
    refine (put_bits n ((hp p : Nat) : Int) HW3.out hn (by have := HL.out; have := HQ.out; simp; omega)).mono ?_
    rw [HMH.out]
    rintro e w4 ⟨rfl, hw4, hb4, hk4⟩
    have HW4 := Lib.hid hw4
    have HB4 := Lib.hid (HB3.out.trans hb4)
    clear hw4 hb4 hk4 HW3 HB3
    go_wp2
    go_ret
    refine ⟨by rw [HE.out]; rfl, ?_, HB4.out⟩
    rw [HP.out]
    have := HW4.out
    simpa [List.append_assoc] using this
theorem awake12_bits : (strOfNums (pk ([] ++ putBits 2 9))).toList = ([200] : List UInt8) := by decide +kernel
theorem awake12_size : rice_Size.f 19 0 = some 20 := by decide +kernel
set_option maxHeartbeats 2000000 in
set_option maxRecDepth 100000 in
theorem awake_calls (w : World) : Calls Try.prog 11 #[] w fun e w' => e = .returned (.bool true) ∧ Below w.heap.size w w' := by
  go_enter Try.func11, Try.ntmps11
  go_wp2_with fail
  refine (new_calls _).mono ?_
  rintro e w1 ⟨rfl, hw, hb⟩
  have HW := Lib.hid hw
  have HB := Lib.hid hb
  clear hw hb
  go_wp2_with fail
  refine (put12_calls 2 9 HW.out (by decide) (by decide)).mono ?_
  rw [show putErr 2 9 = 0 from by decide +kernel]
  rintro e w2 ⟨rfl, hw, hb⟩
  have HW1 := Lib.hid hw
  have HB1 := Lib.hid (HB.out.trans hb)
  clear hw hb HW HB
  go_wp2_with fail
  refine (bytes_bits HW1.out (by decide +kernel)).mono ?_
  rintro e w5 ⟨v, rfl, hv, hb⟩
  have hcv := own_string (P := Try.prog) Try.underlying34 Try.underlying5 Try.underlying9 (Kd.own_of_R hv)
  have ht := beq_iff_eq.mpr awake12_bits
  generalize hs : strOfNums (pk _) = s at hcv ht
  have HB := Lib.hid (HB1.out.trans (Below.mono hb HB1.out.size))
  clear hb hs hv HW1 HB1
  go_wp2_with fail
  refine (rice_Size.calls 19 0 20 _ awake12_size).mono ?_
  rintro e w6 ⟨rfl, hb⟩
  have HB1 := Lib.hid (HB.out.trans (Below.mono hb HB.out.size))
  clear ht hcv hb HB
  go_wp2
  go_ret
  exact ⟨rfl, HB1.out⟩
end Go.Proofs.Ytakpohcobpbjkaa.Hand
