/- RiceSizes: walked. -/
import Derived.Test.YtakpohcobpbjkaaProg
import Derived.Below
import Derived.Deep.Draws
import Derived.Deep.AppendLies
import Derived.Maps.AppendAt
import Derived.OwnWalk
import Derived.Laws.BytesArg
import Derived.Laws.MakeOwn
import Derived.Laws.OwnMore
import Derived.Deep.OwnRows
import Derived.Tactics
import Derived.Lib.ConvBytes
import Derived.Laws.Slices
import Derived.WalkKit
import Derived.KernelRfl
import Derived.RowKit3
import Derived.Deep.LoopGhost
import Derived.Deep.QuietTactic
import Derived.BigQuiet
import Derived.WideLaws
import Derived.Deep.DeepCutAuto
import Derived.Deep.CutBlock
import Derived.Deep.RegionHeld3
import Derived.Laws.Rows
import Derived.Lib.AppendStr
import Derived.ArgAppend
import Derived.Laws.IdiomCopy
import Derived.OrdersHeld
import Derived.Laws.BitsLemmas
import Derived.RowKit
import Derived.StillTailTactics
import Derived.Test.YtakpohcobpbjkaaWWords
import Derived.Test.YtakpohcobpbjkaaWLast
import Derived.Test.YtakpohcobpbjkaaWMore
import Derived.Lib.Hide
import Derived.LaidEql
import Derived.Outline
import Derived.Test.YtakpohcobpbjkaaRice
namespace Go.Proofs.Ytakpohcobpbjkaa.Hand
open Go Go.RowKit Go.Proofs.Ytakpohcobpbjkaa.Plain Go.Proofs.Ytakpohcobpbjkaa.PAll Go.Proofs.YtakpohcobpbjkaaW.PrintWords Go.Proofs.YtakpohcobpbjkaaW.PrintLast Go.Proofs.YtakpohcobpbjkaaW.PrintMore
attribute [local go_sem] max2_int min2_int max_two min_two max_three min_three max_four min_four
set_option linter.unusedVariables false
set_option linter.unusedSimpArgs false
set_option maxHeartbeats 2000000 in
set_option maxRecDepth 100000 in
theorem sizes_calls (p : Int) (n : Nat) (w : World) (hn : n < 18446744073709551616) :
    Calls Try.prog 3 #[.int .i64 p, .int .u64 n] w fun e w' => e = .returned (.bool true) ∧ Below w.heap.size w w' := by
  have HO := Lib.hid (ones_ref p n hn 100 (by omega))
  have HH := Lib.hid (held_ref p)
  have hsz := size_rice p n hn
  obtain ⟨q, hq⟩ : ∃ q : Nat, n / 2 ^ hp p = q := ⟨_, rfl⟩
  rw [hq] at HO hsz
  have hqn : q < 18446744073709551616 := by have := q_lt p n; omega
  have hle := hp_le p
  have w1 : IntKind.u64.wrap ((hp p : Nat) : Int) = (hp p : Int) := u64w_id (by omega) (by omega)
  have w2 : IntKind.u64.wrap (((hp p : Nat) : Int) + 1) = (hp p : Int) + 1 := u64w_id (by omega) (by omega)
  have w3 : IntKind.u64.wrap (18446744073709551615 - (((hp p : Nat) : Int) + 1)) = 18446744073709551615 - ((hp p : Int) + 1) := u64w_id (by omega) (by omega)
  have HB := Lib.hid (Below.refl w.heap.size w)
  by_cases hb : 18446744073709551615 < q + (hp p + 1)
  · rw [if_pos hb] at hsz
    have hbb : decide (18446744073709551615 - ((hp p : Int) + 1) < (q : Int)) = true := decide_eq_true (by omega)
    have HS := Lib.hid hsz
    clear hsz hq hb
    go_enter Try.func3, Try.ntmps3
    go_wp2_with fail
    refine (mastheadref12_Ones.calls _ p (n : Int) _ _ HO.out).mono ?_
    rintro e w4 ⟨rfl, ⟨⟨nd, rfl⟩⟩⟩
    go_wp2_with fail
    refine (mastheadref12_Held.calls p _ _ HH.out).mono ?_
    rintro e w5 ⟨rfl, ⟨⟨nd2, rfl⟩⟩⟩
    have HB2 := Lib.hid (pw_below_drewN HB.out (nd + nd2))
    go_wp2_with fail
    refine (rice_Size.calls p (n : Int) _ _ HS.out).mono ?_
    rintro e w6 ⟨rfl, hb6⟩
    have HB6 := Lib.hid (HB2.out.trans (Below.mono hb6 HB2.out.size))
    clear hb6
    go_wp2_with fail
    refine (awake_calls _).mono ?_
    rintro e w7 ⟨rfl, hb7⟩
    have HB7 := Lib.hid (HB6.out.trans (Below.mono hb7 HB6.out.size))
    clear hb7
    go_wp2
    go_ret
    exact ⟨rfl, HB7.out⟩
  · rw [if_neg hb] at hsz
    have hbb : decide (18446744073709551615 - ((hp p : Int) + 1) < (q : Int)) = false := decide_eq_false (by omega)
    have HS := Lib.hid (show rice_Size.f p (n : Int) = some ((q : Int) + ((hp p : Int) + 1)) by rw [hsz]; congr 1)
    have w4 : IntKind.u64.wrap ((q : Int) + ((hp p : Int) + 1)) = (q : Int) + ((hp p : Int) + 1) := u64w_id (by omega) (by omega)
    have h5 : (((q : Int) + ((hp p : Int) + 1)) == ((q : Int) + ((hp p : Int) + 1))) = true := by simp
    clear hsz hq hb
    go_enter Try.func3, Try.ntmps3
    go_wp2_with fail
    refine (mastheadref12_Ones.calls _ p (n : Int) _ _ HO.out).mono ?_
    rintro e w4 ⟨rfl, ⟨⟨nd, rfl⟩⟩⟩
    go_wp2_with fail
    refine (mastheadref12_Held.calls p _ _ HH.out).mono ?_
    rintro e w5 ⟨rfl, ⟨⟨nd2, rfl⟩⟩⟩
    have HB2 := Lib.hid (pw_below_drewN HB.out (nd + nd2))
    go_wp2_with fail
    refine (rice_Size.calls p (n : Int) _ _ HS.out).mono ?_
    rintro e w6 ⟨rfl, hb6⟩
    have HB6 := Lib.hid (HB2.out.trans (Below.mono hb6 HB2.out.size))
    clear hb6
    go_wp2_with fail
    refine (awake_calls _).mono ?_
    rintro e w7 ⟨rfl, hb7⟩
    have HB7 := Lib.hid (HB6.out.trans (Below.mono hb7 HB6.out.size))
    clear hb7
    go_wp2
    go_ret
    exact ⟨rfl, HB7.out⟩
end Go.Proofs.Ytakpohcobpbjkaa.Hand
