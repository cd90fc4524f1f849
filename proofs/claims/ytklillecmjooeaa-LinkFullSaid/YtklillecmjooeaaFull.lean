/- LinkFull: walked. -/
import Derived.Test.YtklillecmjooeaaProg
import Derived.Below
import Derived.Deep.Draws
import Derived.Deep.AppendLies
import Derived.Maps.AppendAt
import Derived.OwnWalk
import Derived.Laws.BytesArg
import Derived.Laws.MakeOwn
import Derived.Laws.OwnMore
import Derived.Deep.OwnRows
import Derived.Tactics
import Derived.Lib.ConvBytes
import Derived.Laws.Slices
import Derived.WalkKit
import Derived.KernelRfl
import Derived.RowKit3
import Derived.Deep.LoopGhost
import Derived.Deep.QuietTactic
import Derived.BigQuiet
import Derived.WideLaws
import Derived.Deep.DeepCutAuto
import Derived.Deep.CutBlock
import Derived.Deep.RegionHeld3
import Derived.Laws.Rows
import Derived.Lib.AppendStr
import Derived.ArgAppend
import Derived.Laws.IdiomCopy
import Derived.OrdersHeld
import Derived.Laws.BitsLemmas
import Derived.RowKit
import Derived.StillTailTactics
import Derived.Test.YtklillecmjooeaaWWords
import Derived.Test.YtklillecmjooeaaWLast
import Derived.Test.YtklillecmjooeaaWMore
import Derived.Lib.Hide
import Derived.LaidEql
import Derived.Outline
import Derived.Test.YtklillecmjooeaaDouble
import Derived.Test.YtklillecmjooeaaDrop
import Derived.Test.YtklillecmjooeaaAwake
namespace Go.Proofs.Ytklillecmjooeaa.Hand
open Go Go.RowKit Go.Proofs.Ytklillecmjooeaa.Plain Go.Proofs.Ytklillecmjooeaa.PAll Go.Proofs.YtklillecmjooeaaW.PrintWords Go.Proofs.YtklillecmjooeaaW.PrintLast Go.Proofs.YtklillecmjooeaaW.PrintMore
attribute [local go_sem] max2_int min2_int max_two min_two
set_option linter.unusedVariables false
set_option linter.unusedSimpArgs false
/-- A link of n messages, none of them long. -/
def IsF (w : World) (B g n : Nat) : Prop := ∃ ms : List S49, IsL w B g ms ∧ ms.length = n ∧ ∀ x ∈ ms, x.f0.length ≤ 100
theorem rd_mem {ms : List S49} {i : Int} (h0 : 0 ≤ i) (h1 : i < ms.length) : rd_T49 ms i ∈ ms := by
  unfold rd_T49
  rw [List.getD_eq_getElem?_getD, List.getElem?_eq_getElem (by omega : i.toNat < ms.length)]
  exact List.getElem_mem _
def upF (n : Nat) : Nat := if 64 ≤ n then n else n + 1
def errF (n : Nat) : Int := if 64 ≤ n then 8 else 0
theorem send_up {ms : List S49} {bs : List Int} {now : Int} (hb : bs.length ≤ 100) (hx : ∀ x ∈ ms, x.f0.length ≤ 100) : sendE bs.length ms.length = errF ms.length ∧ (sendL ms bs now).length = upF ms.length ∧ ∀ x ∈ sendL ms bs now, x.f0.length ≤ 100 := by
  unfold sendE sendL errF upF
  simp only [if_neg (show ¬ 200000 < bs.length by omega)]
  by_cases h : 64 ≤ ms.length
  · simp only [if_pos h]
    exact ⟨trivial, trivial, hx⟩
  · simp only [if_neg h]
    refine ⟨trivial, by simp, fun x hm => ?_⟩
    rcases List.mem_append.mp hm with hm | hm
    · exact hx x hm
    · simp only [List.mem_cons, List.not_mem_nil, or_false] at hm
      subst hm
      exact hb
theorem fsend {w : World} {B g n : Nat} (A0 : Option Addr) (c0 : Nat) (bs : List Int) (now : Int) (h : IsF w B g n) (hr0 : Kd.C (Kd.int .u8) w A0 bs.length bs) (hc0 : bs.length ≤ c0) (hb : bs.length ≤ 100) (hn : n ≤ 1000000) :
    Calls Try.prog 8 #[.pointer (some ⟨g, 0, none⟩), .slice A0 bs.length c0, .int .i64 now] w fun e w' => e = .returned (.int .i64 (errF n)) ∧ IsF w' B g (upF n) ∧ Below B w w' := by
  obtain ⟨ms, hI, rfl, hx⟩ := h
  obtain ⟨e1, e2, e3⟩ := send_up (now := now) hb hx
  refine (lsend_calls A0 _ c0 bs now hI rfl hr0 hc0 (by omega) hn).mono ?_
  rintro e w1 ⟨rfl, h1, h2, _⟩
  exact ⟨by rw [e1], ⟨_, h1, e2, e3⟩, h2⟩
theorem fdouble {w : World} {B g n : Nat} (p : Int) (h : IsF w B g n) (h0 : 0 < n) (hn : n ≤ 1000000) :
    Calls Try.prog 11 #[.pointer (some ⟨g, 0, none⟩), .int .i64 p] w fun e w' => e = .returned (.int .i64 (errF n)) ∧ IsF w' B g (upF n) ∧ Below B w w' := by
  obtain ⟨ms, hI, rfl, hx⟩ := h
  obtain ⟨k, hk, hat⟩ := atL_in (p := p) h0
  have hl := hx _ (rd_mem (ms := ms) (i := (k : Int)) (by omega) (by omega))
  obtain ⟨e1, e2, e3⟩ := send_up (now := (rd_T49 ms k).f1) hl hx
  refine (ldouble_some p k hI hn hat (by omega) (by omega) (by omega)).mono ?_
  rintro e w1 ⟨rfl, h1, h2, _⟩
  exact ⟨by rw [e1], ⟨_, h1, e2, e3⟩, h2⟩
theorem fdrop {w : World} {B g n : Nat} (p : Int) (h : IsF w B g (n + 1)) (hn : n + 1 ≤ 1000000) :
    Calls Try.prog 13 #[.pointer (some ⟨g, 0, none⟩), .int .i64 p] w fun e w' => e = .returned (.int .i64 0) ∧ IsF w' B g n ∧ Below B w w' := by
  obtain ⟨ms, hI, hl, hx⟩ := h
  obtain ⟨k, hk, hat⟩ := atL_in (p := p) (n := ms.length) (by omega)
  refine (ldrop_some p k hI (by omega) hat (by omega) (by omega)).mono ?_
  rintro e w1 ⟨rfl, h1, h2, _⟩
  refine ⟨rfl, ⟨_, h1, ?_, fun x hm => hx x (List.mem_of_mem_eraseIdx hm)⟩, h2⟩
  rw [List.length_eraseIdx, if_pos (by simpa using hk)]
  omega
theorem flen {w : World} {B g n : Nat} (h : IsF w B g n) : Calls Try.prog 12 #[.pointer (some ⟨g, 0, none⟩)] w fun e w' => e = .returned (.int .i64 n) ∧ w = w' := by
  obtain ⟨ms, hI, rfl, hx⟩ := h
  exact llen_calls hI
set_option maxHeartbeats 4000000 in
set_option maxRecDepth 100000 in
theorem full_calls (n : Int) (A : Option Addr) (c : Nat) (bs : List Int) (w : World) (hn0 : 0 ≤ n) (hn1 : n < 256) (hr : Kd.C (Kd.int .u8) w A bs.length bs) (hc : bs.length ≤ c) (hm : bs.length ≤ 140737488351232) :
    Calls Try.prog 4 #[.int .u8 n, .slice A bs.length c] w fun e w' => e = .returned (.bool true) ∧ Below w.heap.size w w' := by
  have HR := Lib.hid hr
  have HC := Lib.hid hc
  by_cases h100 : 100 < bs.length
  · have b1 : decide ((100 : Int) < (bs.length : Int)) = true := decide_eq_true (by omega)
    clear hr hc hm h100 HR HC
    go_enter Try.func4, Try.ntmps4
    go_wp2_with fail
    refine (lnew_calls _).mono ?_
    rintro e w1 ⟨rfl, hw, hb⟩
    have HB := Lib.hid hb
    clear hw hb
    go_wp2_with fail
    refine (awake_calls _).mono ?_
    rintro e w2 ⟨rfl, hb2⟩
    have HB2 := Lib.hid (HB.out.trans (Below.mono hb2 HB.out.size))
    clear hb2
    go_wp2
    go_ret
    exact ⟨rfl, HB2.out⟩
  · have b1 : decide ((100 : Int) < (bs.length : Int)) = false := decide_eq_false (by omega)
    have HL := Lib.hid (show bs.length ≤ 100 by omega)
    obtain ⟨m, hmm⟩ : ∃ m : Int, mn n 80 = m := ⟨_, rfl⟩
    have em : (if 80 < n then 80 else n) = m := hmm
    have hm0 : 0 ≤ m := by rw [← em]; split <;> omega
    have hm80 : m ≤ 80 := by rw [← em]; split <;> omega
    obtain ⟨q, hqq⟩ : ∃ q : Int, mn n 64 = q := ⟨_, rfl⟩
    have em2 : (if 64 < n then 64 else n) = q := hqq
    have HQ := Lib.hid (show q = if 64 < m then 64 else m by rw [← em, ← em2]; split <;> split <;> (try split) <;> omega)
    clear hmm hqq hr hc hm h100
    go_enter Try.func4, Try.ntmps4
    go_wp2_with fail
    refine (lnew_calls _).mono ?_
    rintro e w1 ⟨rfl, hw, hb⟩
    have HW := Lib.hid hw
    have HB := Lib.hid hb
    clear hw hb
    go_wp2_with fail
    go_loopw [25] (fun i wr => ∃ (k : Int), 0 ≤ k ∧ k ≤ m ∧ i = .int .i64 k ∧ Hid (∃ j : Nat, (j : Int) = (if 64 < k then 64 else k) ∧ IsF wr w.heap.size w.heap.size j ∧ Below w.heap.size w wr)) (fun i _ => (m - intOf i).toNat)
    case atStart => exact ⟨0, by omega, by omega, rfl, Lib.hid ⟨0, by simp, ⟨[], HW.out, rfl, by simp⟩, HB.out⟩⟩
    case round =>
      obtain ⟨k, hk0, hkm, rfl, H⟩ := hrel
      by_cases hlt : k < m
      · obtain ⟨j, hj, hw, hb⟩ := H.out
        have HJ := Lib.hid hj
        have HW1 := Lib.hid hw
        have HB1 := Lib.hid hb
        clear H hw hb
        obtain ⟨r, hr⟩ : ∃ r, k.tmod 3 = r := ⟨_, rfl⟩
        have HRR := Lib.hid hr
        by_cases h64 : 64 ≤ k
        · have HJ64 : Hid (j = 64) := Lib.hid (by split at hj <;> omega)
          have hS := fsend A c bs k HW1.out (Kd.C_below HR.out HB1.out) HC.out HL.out (by have := HJ64.out; omega)
          rw [HJ64.out, show errF 64 = 8 from rfl, show upF 64 = 64 from rfl] at hS
          have HS := Lib.hid hS
          have HD : Hid (∀ w2, IsF w2 w.heap.size w.heap.size 64 → Calls Try.prog 11 #[.pointer (some ⟨w.heap.size, 0, none⟩), .int .i64 k] w2 fun e w' => e = .returned (.int .i64 8) ∧ IsF w' w.heap.size w.heap.size 64 ∧ Below w.heap.size w2 w') := Lib.hid fun w2 h => fdouble k h (by decide) (by decide)
          have HREL : Hid (∀ w2, IsF w2 w.heap.size w.heap.size 64 → Below w.heap.size w w2 → ∃ j : Nat, (j : Int) = (if 64 < k + 1 then 64 else k + 1) ∧ IsF w2 w.heap.size w.heap.size j ∧ Below w.heap.size w w2) := Lib.hid fun w2 h hb => ⟨64, by rw [if_pos (by omega)]; rfl, h, hb⟩
          have c64 : decide (64 ≤ k) = true := decide_eq_true h64
          clear hS hj HJ HJ64 h64
          by_cases hr2 : r = 2
          · subst hr2
            go_wp2_with fail
            refine HS.out.mono ?_
            rintro e w2 ⟨rfl, h2, hb2⟩
            have H2 := Lib.hid h2
            have HB2 := Lib.hid (HB1.out.trans hb2)
            clear h2 hb2
            go_wp2_with fail
            refine (HD.out _ H2.out).mono ?_
            rintro e w3 ⟨rfl, h3, hb3⟩
            have H3 := Lib.hid h3
            have HB3 := Lib.hid (HB2.out.trans hb3)
            clear h3 hb3
            go_wp2
            go_roundw
            case rel => exact ⟨k + 1, by omega, by omega, rfl, Lib.hid (HREL.out _ H3.out HB3.out)⟩
            case measure => simp [intOf]; omega
          · have r1 : (r = 2) = False := eq_false hr2
            have r2 : (r == 2) = false := by simpa using hr2
            clear hr2
            go_wp2_with fail
            refine HS.out.mono ?_
            rintro e w2 ⟨rfl, h2, hb2⟩
            have H2 := Lib.hid h2
            have HB2 := Lib.hid (HB1.out.trans hb2)
            clear h2 hb2
            go_wp2
            go_roundw
            case rel => exact ⟨k + 1, by omega, by omega, rfl, Lib.hid (HREL.out _ H2.out HB2.out)⟩
            case measure => simp [intOf]; omega
        · have hjk : (j : Int) = k := by rw [if_neg (by omega)] at hj; exact hj
          have hS := fsend A c bs k HW1.out (Kd.C_below HR.out HB1.out) HC.out HL.out (by omega)
          rw [show errF j = 0 from if_neg (by omega), show upF j = j + 1 from if_neg (by omega)] at hS
          have HS := Lib.hid hS
          have HD : Hid (2 ≤ k → ∀ w2, IsF w2 w.heap.size w.heap.size j → Calls Try.prog 11 #[.pointer (some ⟨w.heap.size, 0, none⟩), .int .i64 k] w2 fun e w' => e = .returned (.int .i64 0) ∧ IsF w' w.heap.size w.heap.size (j + 1) ∧ Below w.heap.size w2 w') := Lib.hid fun h2k w2 h => by
            have hh := fdouble k h (by omega) (by omega)
            rwa [show errF j = 0 from if_neg (by omega), show upF j = j + 1 from if_neg (by omega)] at hh
          have HP : Hid (∀ w2, IsF w2 w.heap.size w.heap.size (j + 1) → Calls Try.prog 13 #[.pointer (some ⟨w.heap.size, 0, none⟩), .int .i64 (-1)] w2 fun e w' => e = .returned (.int .i64 0) ∧ IsF w' w.heap.size w.heap.size j ∧ Below w.heap.size w2 w') := Lib.hid fun w2 h => fdrop (-1) h (by omega)
          have HREL : Hid (∀ w2, IsF w2 w.heap.size w.heap.size (j + 1) → Below w.heap.size w w2 → ∃ j : Nat, (j : Int) = (if 64 < k + 1 then 64 else k + 1) ∧ IsF w2 w.heap.size w.heap.size j ∧ Below w.heap.size w w2) := Lib.hid fun w2 h hb => ⟨j + 1, by rw [if_neg (by omega)]; omega, h, hb⟩
          have c64 : decide (64 ≤ k) = false := decide_eq_false h64
          clear hS hj HJ hjk h64
          by_cases hr2 : r = 2
          · have HK2 : Hid (2 ≤ k) := Lib.hid (by subst hr2; rcases (show k = 0 ∨ k = 1 ∨ 2 ≤ k by omega) with e | e | e <;> first | exact e | (subst e; simp at hr))
            subst hr2
            go_wp2_with fail
            refine HS.out.mono ?_
            rintro e w2 ⟨rfl, h2, hb2⟩
            have H2 := Lib.hid h2
            have HB2 := Lib.hid (HB1.out.trans hb2)
            clear h2 hb2
            go_wp2_with fail
            refine (HP.out _ H2.out).mono ?_
            rintro e w3 ⟨rfl, h3, hb3⟩
            have H3 := Lib.hid h3
            have HB3 := Lib.hid (HB2.out.trans hb3)
            clear h3 hb3
            go_wp2_with fail
            refine (HD.out HK2.out _ H3.out).mono ?_
            rintro e w4 ⟨rfl, h4, hb4⟩
            have H4 := Lib.hid h4
            have HB4 := Lib.hid (HB3.out.trans hb4)
            clear h4 hb4
            go_wp2
            go_roundw
            case rel => exact ⟨k + 1, by omega, by omega, rfl, Lib.hid (HREL.out _ H4.out HB4.out)⟩
            case measure => simp [intOf]; omega
          · have r1 : (r = 2) = False := eq_false hr2
            have r2 : (r == 2) = false := by simpa using hr2
            clear hr2
            go_wp2_with fail
            refine HS.out.mono ?_
            rintro e w2 ⟨rfl, h2, hb2⟩
            have H2 := Lib.hid h2
            have HB2 := Lib.hid (HB1.out.trans hb2)
            clear h2 hb2
            go_wp2
            go_roundw
            case rel => exact ⟨k + 1, by omega, by omega, rfl, Lib.hid (HREL.out _ H2.out HB2.out)⟩
            case measure => simp [intOf]; omega
      · obtain ⟨j, hj, hw, hb⟩ := H.out
        have hjq : (j : Int) = q := by rw [HQ.out, hj, show k = m by omega]
        have HW1 := Lib.hid hw
        have HB1 := Lib.hid hb
        clear H hw hb hj
        go_wp2_with fail
        refine (flen HW1.out).mono ?_
        rintro e w2 ⟨rfl, rfl⟩
        rw [hjq]
        clear hjq
        go_wp2_with fail
        refine (awake_calls _).mono ?_
        rintro e w3 ⟨rfl, hb3⟩
        have HB3 := Lib.hid (HB1.out.trans (Below.mono hb3 HB1.out.size))
        clear hb3
        go_wp2
        go_ret
        exact ⟨rfl, HB3.out⟩
end Go.Proofs.Ytklillecmjooeaa.Hand
