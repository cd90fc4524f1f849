/- LinkPlays: walked. -/
import Derived.Test.YtklillecmjooeaaProg
import Derived.Below
import Derived.Deep.Draws
import Derived.Deep.AppendLies
import Derived.Maps.AppendAt
import Derived.OwnWalk
import Derived.Laws.BytesArg
import Derived.Laws.MakeOwn
import Derived.Laws.OwnMore
import Derived.Deep.OwnRows
import Derived.Tactics
import Derived.Lib.ConvBytes
import Derived.Laws.Slices
import Derived.WalkKit
import Derived.KernelRfl
import Derived.RowKit3
import Derived.Deep.LoopGhost
import Derived.Deep.QuietTactic
import Derived.BigQuiet
import Derived.WideLaws
import Derived.Deep.DeepCutAuto
import Derived.Deep.CutBlock
import Derived.Deep.RegionHeld3
import Derived.Laws.Rows
import Derived.Lib.AppendStr
import Derived.ArgAppend
import Derived.Laws.IdiomCopy
import Derived.OrdersHeld
import Derived.Laws.BitsLemmas
import Derived.RowKit
import Derived.StillTailTactics
import Derived.Test.YtklillecmjooeaaWWords
import Derived.Test.YtklillecmjooeaaWLast
import Derived.Test.YtklillecmjooeaaWMore
import Derived.Lib.Hide
import Derived.LaidEql
import Derived.Outline
import Derived.Test.YtklillecmjooeaaAwake
import Derived.Test.YtklillecmjooeaaStep
namespace Go.Proofs.Ytklillecmjooeaa.Hand
open Go Go.RowKit Go.Proofs.Ytklillecmjooeaa.Plain Go.Proofs.Ytklillecmjooeaa.PAll Go.Proofs.YtklillecmjooeaaW.PrintWords Go.Proofs.YtklillecmjooeaaW.PrintLast Go.Proofs.YtklillecmjooeaaW.PrintMore
set_option linter.unusedVariables false
set_option linter.unusedSimpArgs false
theorem same_calls {w0 w : World} {g : Nat} {v : Value} {ms : List S49} (h : IsS w0 w g v ms ms) (hf : Fits ms) :
    Calls Try.prog 16 #[.pointer (some ⟨g, 0, none⟩), v] w fun e w' => e = .returned (.bool true) ∧ IsS w0 w' g v ms ms := by
  obtain ⟨A, c, hv⟩ := Kd.R_slice h.2.1
  subst hv
  rcases Nat.eq_zero_or_pos ms.length with h0 | h0
  · have hms : ms = [] := List.eq_nil_of_length_eq_zero h0
    subst hms
    refine (same_none h.1).mono ?_
    rintro e w1 ⟨rfl, hb⟩
    exact ⟨rfl, h.below hb⟩
  · refine (same_some h.1 h.2.1 h0 (by have := hf.1; omega) hf.2).mono ?_
    rintro e w1 ⟨rfl, hb⟩
    exact ⟨rfl, h.below hb⟩
set_option maxHeartbeats 4000000 in
set_option maxRecDepth 100000 in
theorem plays_calls (A : Option Addr) (c : Nat) (xs : List S29) (w : World) (hr : Kd.C k29 w A xs.length xs) (hc : xs.length ≤ c) (hm : xs.length ≤ 9223372036854775807) :
    Calls Try.prog 5 #[.slice A xs.length c] w fun e w' => e = .returned (.bool true) ∧ Below w.heap.size w w' := by
  have HR := Lib.hid hr
  have HC := Lib.hid hc
  have HM := Lib.hid hm
  obtain ⟨r, hsm⟩ := small_f xs hm
  have HSM := Lib.hid hsm
  clear hr hc hm hsm
  go_enter Try.func5, Try.ntmps5
  go_wp2_with fail
  refine (lnew_calls _).mono ?_
  rintro e w1 ⟨rfl, hw, hb⟩
  have HW := Lib.hid hw
  have HB := Lib.hid hb
  clear hw hb
  go_wp2_with fail
  refine (mastheadlaw27_small.calls (xs.length + 1) A c xs r w1 (Kd.C_below HR.out HB.out) HC.out HSM.out).mono ?_
  rintro e w2 ⟨rfl, hb⟩
  have HW2 := Lib.hid (HW.out.below hb)
  have HB2 := Lib.hid (HB.out.trans (Below.mono hb HB.out.size))
  clear hb HSM
  cases r with
  | false =>
    go_wp2_with fail
    refine (awake_calls _).mono ?_
    rintro e w3 ⟨rfl, hb2⟩
    have HB3 := Lib.hid (HB2.out.trans (Below.mono hb2 HB2.out.size))
    clear hb2
    go_wp2
    go_ret
    exact ⟨rfl, HB3.out⟩
  | true =>
    go_wp2_with fail
    go_loopw [4, 23] (fun x i wr => ∃ (k : Int), 0 ≤ k ∧ k ≤ (xs.length : Int) ∧ i = .int .i64 k ∧ Hid (∃ ms, IsS w wr w.heap.size x ms ms ∧ Fits ms)) (fun _ i _ => ((xs.length : Int) - intOf i).toNat)
    case atStart => exact ⟨0, by omega, by omega, rfl, Lib.hid ⟨[], ⟨HW2.out, Kd.R_nil _ _ _ _ _, HB2.out⟩, by simp, by simp⟩⟩
    case round =>
      obtain ⟨k, hk0, hkm, rfl, H⟩ := hrel
      by_cases hlt : k < (xs.length : Int)
      · obtain ⟨ms, hs, hf⟩ := H.out
        obtain ⟨ad, A3, c3, rfl, x0, x1, x2, x3, xl, xC⟩ := at_T29 (Kd.C_below HR.out hs.2.2) k hk0 hlt
        obtain ⟨ad', A3', c3', e1, _, _, _, x3', xl', xC'⟩ := at_T29 HR.out k hk0 hlt
        have e3 : (Value.slice A3 (rd_T29 xs k).f3.length c3) = .slice A3' (rd_T29 xs k).f3.length c3' := by
          injection e1 with e1
          subst e1
          have h1 := (hs.2.2.cell (World.block_lt_of_cell? w _ x3')).trans x3'
          rw [h1] at x3
          exact (Option.some.inj x3).symm
        injection e3 with e3 _ e4
        subst e3
        subst e4
        clear x3' e1 xC xl
        obtain ⟨⟨kind, n, now, row⟩, hx⟩ : ∃ x, rd_T29 xs k = x := ⟨_, rfl⟩
        rw [hx] at x0 x1 x2 x3 xl' xC'
        simp only at x0 x1 x2 x3 xl' xC'
        have HSTEP := Lib.hid (step_calls kind n now row (hs.alloc (.cells #[.int .i64 kind, .int .i64 n, .int .i64 now, .slice A3 row.length c3] 29)) hf xC' xl')
        have wk : wrap64 (k + 1) = k + 1 := wrap64_id (by omega) (by have := HM.out; omega)
        have HLT := Lib.hid hlt
        obtain ⟨len3, hlen3⟩ : ∃ n, row.length = n := ⟨_, rfl⟩
        rw [hlen3] at x3 HSTEP
        clear hx hs hf H hlen3 xl' xC'
        go_wp2_with fail
        with_reducible refine HSTEP.out.mono ?_
        rintro e w3 ⟨v', ms', rfl, hs', hf'⟩
        have HSAME := Lib.hid (same_calls hs' hf')
        have HF' := Lib.hid hf'
        clear hs' hf' HSTEP
        go_wp2_with fail
        with_reducible refine HSAME.out.mono ?_
        rintro e w4 ⟨rfl, hs4⟩
        have HS4 := Lib.hid hs4
        clear hs4 HSAME
        go_wp2
        go_roundw
        case rel => exact ⟨k + 1, by omega, by have := HLT.out; omega, by rw [wk], Lib.hid ⟨ms', HS4.out, HF'.out⟩⟩
        case measure => simp [intOf]; have := HLT.out; omega
      · obtain ⟨ms, hs, hf⟩ := H.out
        have HB3 := Lib.hid hs.2.2
        clear hs H
        go_wp2_with fail
        refine (awake_calls _).mono ?_
        rintro e w3 ⟨rfl, hb2⟩
        have HB4 := Lib.hid (HB3.out.trans (Below.mono hb2 HB3.out.size))
        clear hb2
        go_wp2
        go_ret
        exact ⟨rfl, HB4.out⟩
end Go.Proofs.Ytklillecmjooeaa.Hand
