/- RiceBack: walked. -/
import Derived.Test.YtakpohcobpbjkaaProg
import Derived.Below
import Derived.Deep.Draws
import Derived.Deep.AppendLies
import Derived.Maps.AppendAt
import Derived.OwnWalk
import Derived.Laws.BytesArg
import Derived.Laws.MakeOwn
import Derived.Laws.OwnMore
import Derived.Deep.OwnRows
import Derived.Tactics
import Derived.Lib.ConvBytes
import Derived.Laws.Slices
import Derived.WalkKit
import Derived.KernelRfl
import Derived.RowKit3
import Derived.Deep.LoopGhost
import Derived.Deep.QuietTactic
import Derived.BigQuiet
import Derived.WideLaws
import Derived.Deep.DeepCutAuto
import Derived.Deep.CutBlock
import Derived.Deep.RegionHeld3
import Derived.Laws.Rows
import Derived.Lib.AppendStr
import Derived.ArgAppend
import Derived.Laws.IdiomCopy
import Derived.OrdersHeld
import Derived.Laws.BitsLemmas
import Derived.RowKit
import Derived.StillTailTactics
import Derived.Test.YtakpohcobpbjkaaWWords
import Derived.Test.YtakpohcobpbjkaaWLast
import Derived.Test.YtakpohcobpbjkaaWMore
import Derived.Lib.Hide
import Derived.LaidEql
import Derived.Outline
import Derived.Test.YtakpohcobpbjkaaRiceBackPlain
namespace Go.Proofs.Ytakpohcobpbjkaa.Hand
open Go Go.RowKit Go.Proofs.Ytakpohcobpbjkaa.Plain Go.Proofs.Ytakpohcobpbjkaa.PAll Go.Proofs.YtakpohcobpbjkaaW.PrintWords Go.Proofs.YtakpohcobpbjkaaW.PrintLast Go.Proofs.YtakpohcobpbjkaaW.PrintMore
attribute [local go_sem] max2_int min2_int max_two min_two max_three min_three max_four min_four
set_option linter.unusedVariables false
set_option linter.unusedSimpArgs false
theorem at_int {K : IntKind} {w : World} {A : Option Addr} {n : Nat} {xs : List Int} (h : Kd.C (Kd.int K) w A n xs) (i : Int) (h0 : 0 ≤ i) (h1 : i < n) : ∃ ad, A = some ad ∧ w.cell? (ad.add i.toNat) = some (.int K (rd xs i)) := by
  obtain ⟨ad, c, e, _, hK, hc0⟩ := Kd.C_get h 0 i h0 h1
  have hc : ∀ j u, c[j]? = some u → w.cell? (ad.add (i.toNat * 1 + j)) = some u := hc0
  have he : c = [.int K (rd xs i)] := hK
  subst he
  have := hc 0 _ rfl
  rw [Nat.mul_one, Nat.add_zero] at this
  exact ⟨ad, e, this⟩
theorem rd_mem' {xs : List Int} {i : Int} (h0 : 0 ≤ i) (h1 : i < (xs.length : Int)) : rd xs i ∈ xs := by
  unfold rd
  rw [List.getD_eq_getElem?_getD, List.getElem?_eq_getElem (by omega)]
  exact List.getElem_mem _
set_option maxHeartbeats 8000000 in
set_option maxRecDepth 100000 in
theorem back_calls (p : Int) (A : Option Addr) (c : Nat) (xs0 : List Int) (w : World) (hr0 : Kd.C (Kd.int .u64) w A xs0.length xs0) (hc : xs0.length ≤ c) (hm : xs0.length ≤ 9223372036854775807) (hwf : ∀ x ∈ xs0, 0 ≤ x ∧ x < 18446744073709551616) :
    Calls Try.prog 7 #[.int .i64 p, .slice A xs0.length c] w fun e w' => e = .returned (.bool true) ∧ Below w.heap.size w w' := by
  obtain ⟨n, hn⟩ : ∃ n : Nat, n = min xs0.length 20 := ⟨_, rfl⟩
  obtain ⟨xs, hxs⟩ : ∃ xs, xs = xs0.take n := ⟨_, rfl⟩
  have hl : xs.length = n := by rw [hxs, List.length_take]; omega
  have HR := Lib.hid (show Kd.C (Kd.int .u64) w A xs.length xs by rw [hxs]; exact Kd.C_take hr0 (by omega))
  have HWF := Lib.hid (show ∀ x ∈ xs, 0 ≤ x ∧ x < 18446744073709551616 from fun x hx => hwf x (List.mem_of_mem_take (hxs ▸ hx)))
  have hmin : (if 20 < (xs0.length : Int) then 20 else (xs0.length : Int)) = (n : Int) := by split <;> omega
  have h30 : (n : Int) ≤ 20 := by omega
  have hnc : (n : Int) ≤ (c : Int) := by omega
  clear hr0 hwf hxs hn
  subst hl
  go_enter Try.func7, Try.ntmps7
  go_wp2_with fail
  refine (new_calls _).mono ?_
  rintro e w1 ⟨rfl, hw, hb⟩
  have HW := Lib.hid hw
  have HB := Lib.hid hb
  clear hw hb
  go_wp2_with fail
  go_loopw [25] (fun i wr => ∃ (k : Int), 0 ≤ k ∧ k ≤ (xs.length : Int) ∧ i = .int .i64 k ∧ Hid ((∀ x ∈ xs.take k.toNat, x.toNat / 2 ^ hp p ≤ 100) ∧ IsB wr w.heap.size w.heap.size [] ∧ Below w.heap.size w wr)) (fun i _ => (20 - intOf i).toNat)
  case atStart => exact ⟨0, by omega, by omega, rfl, Lib.hid ⟨by simp, HW.out, HB.out⟩⟩
  case round =>
    clear HW HB
    obtain ⟨k, hk0, hkx, rfl, H⟩ := hrel
    by_cases hlt : k < (xs.length : Int)
    · obtain ⟨ho, hw, hb⟩ := H.out
      obtain ⟨ad, rfl, c0⟩ := at_int (Kd.C_below HR.out hb) k hk0 hlt
      have hin := HWF.out _ (rd_mem' hk0 hlt)
      have htk := take_rd hk0 hlt
      obtain ⟨y, hy⟩ : ∃ y : Nat, rd xs k = (y : Int) := ⟨(rd xs k).toNat, by omega⟩
      rw [hy] at c0 hin htk
      obtain ⟨q, hq⟩ : ∃ q : Nat, y / 2 ^ hp p = q := ⟨_, rfl⟩
      have HO := Lib.hid (ones_ref p y (by omega) 100 (by omega))
      rw [hq] at HO
      have HW1 := Lib.hid hw
      have HB1 := Lib.hid hb
      clear hw hb H hin
      by_cases h1 : 100 < q
      · have f1 : decide (100 < (q : Int)) = true := decide_eq_true (by omega)
        clear hq ho htk h1
        go_wp2_with fail
        refine (mastheadref12_Ones.calls _ p (y : Int) _ _ HO.out).mono ?_
        rintro e w4 ⟨rfl, ⟨⟨nd, rfl⟩⟩⟩
        have HB2 := Lib.hid (pw_below_drewN HB1.out nd)
        go_wp2_with fail
        refine (awake_calls _).mono ?_
        rintro e w3 ⟨rfl, hb3⟩
        have HB3 := Lib.hid (HB2.out.trans (Below.mono hb3 HB2.out.size))
        clear hb3
        go_wp2
        go_ret
        exact ⟨rfl, HB3.out⟩
      · have f1 : decide (100 < (q : Int)) = false := decide_eq_false (by omega)
        have HT := Lib.hid (show ∀ x ∈ xs.take (k + 1).toNat, x.toNat / 2 ^ hp p ≤ 100 by
          rw [htk]
          intro x hx
          rcases List.mem_append.1 hx with h | h
          · exact ho x h
          · have : x = (y : Int) := by simpa using h
            rw [this, Int.toNat_natCast, hq]
            omega)
        clear hq ho htk h1
        go_wp2_with fail
        refine (mastheadref12_Ones.calls _ p (y : Int) _ _ HO.out).mono ?_
        rintro e w4 ⟨rfl, ⟨⟨nd, rfl⟩⟩⟩
        have HB2 := Lib.hid (pw_below_drewN HB1.out nd)
        have HW2 := Lib.hid (HW1.out.drewN nd)
        go_wp2
        go_roundw
        case rel => exact ⟨k + 1, by omega, by omega, rfl, Lib.hid ⟨HT.out, HW2.out, HB2.out⟩⟩
        case measure => simp [intOf]; omega
    · obtain ⟨ho, hw, hb⟩ := H.out
      have ek : k.toNat = xs.length := by omega
      rw [ek, List.take_length] at ho
      have HO := Lib.hid ho
      have HW1 := Lib.hid hw
      have HB1 := Lib.hid hb
      clear hw hb ho H ek
      go_wp2_with fail
      go_loopw [37] (fun i wr => ∃ (k : Int), 0 ≤ k ∧ k ≤ (xs.length : Int) ∧ i = .int .i64 k ∧ Hid (IsB wr w.heap.size w.heap.size (codeR p (xs.take k.toNat)) ∧ Below w.heap.size w wr)) (fun i _ => (20 - intOf i).toNat)
      case atStart => exact ⟨0, by omega, by omega, rfl, Lib.hid ⟨HW1.out, HB1.out⟩⟩
      case round =>
        clear HW1 HB1 hlt hk0 hkx
        obtain ⟨k, hk0, hkx, rfl, H⟩ := hrel
        by_cases hlt : k < (xs.length : Int)
        · obtain ⟨hw, hb⟩ := H.out
          obtain ⟨ad, rfl, c0⟩ := at_int (Kd.C_below HR.out hb) k hk0 hlt
          have hin := HWF.out _ (rd_mem' hk0 hlt)
          have hq := HO.out _ (rd_mem' hk0 hlt)
          have hst := codeR_step (p := p) hk0 hlt
          have hlen := codeR_length p (xs.take k.toNat) (fun x hx => HO.out x (List.mem_of_mem_take hx))
          rw [List.length_take] at hlen
          obtain ⟨y, hy⟩ : ∃ y : Nat, rd xs k = (y : Int) := ⟨(rd xs k).toNat, by omega⟩
          rw [hy] at c0 hin hq hst
          rw [Int.toNat_natCast] at hq hst
          have HST := Lib.hid (show codeR p (xs.take (k + 1).toNat) = codeR p (xs.take k.toNat) ++ putBits p y by rw [hst]; unfold putBits; rw [if_neg (by omega)])
          have HE : Hid (putErr p y = 0) := Lib.hid (by unfold putErr; rw [if_neg (by omega)])
          have HLN := Lib.hid (show (codeR p (xs.take k.toNat)).length ≤ 800000000 by omega)
          have HW1 := Lib.hid hw
          have HB1 := Lib.hid hb
          clear hw hb H hq hst hlen
          go_wp2_with fail
          refine (put12_calls p y HW1.out (by omega) HLN.out).mono ?_
          rw [HE.out]
          rintro e w3 ⟨rfl, hw3, hb3⟩
          have HW3 := Lib.hid (show IsB w3 w.heap.size w.heap.size (codeR p (xs.take (k + 1).toNat)) by rw [HST.out]; exact hw3)
          have HB3 := Lib.hid (HB1.out.trans hb3)
          clear hw3 hb3 HW1 HB1 c0
          go_wp2
          go_roundw
          case rel => exact ⟨k + 1, by omega, by omega, rfl, Lib.hid ⟨HW3.out, HB3.out⟩⟩
          case measure => simp [intOf]; omega
        · obtain ⟨hw, hb⟩ := H.out
          have ek : k.toNat = xs.length := by omega
          rw [ek, List.take_length] at hw
          have hlen := codeR_length p xs HO.out
          have HLN := Lib.hid (show (codeR p xs).length ≤ 4000 by omega)
          have HPK := Lib.hid (show (pk (codeR p xs)).length ≤ 1000 by rw [pk_length]; omega)
          have HW1 := Lib.hid hw
          have HB1 := Lib.hid hb
          clear hw hb H ek hlen
          go_wp2_with fail
          refine (bytes_bits HW1.out (by have := HLN.out; omega)).mono ?_
          rintro e w2 ⟨v, rfl, hv, hb2⟩
          obtain ⟨A2, c2, rfl, hc2, hC2⟩ := Kd.R_reads hv
          have HC2 := Lib.hid hC2
          have HL2 := Lib.hid hc2
          have HB2 := Lib.hid (HB1.out.trans (Below.mono hb2 HB1.out.size))
          have HBY := Lib.hid (pk_bytes (codeR p xs))
          clear hv hb2 hC2 hc2 HW1 HB1
          go_wp2_with fail
          refine (of_calls A2 _ c2 (pk (codeR p xs)) _ rfl HC2.out HL2.out (by have := HPK.out; omega)).mono ?_
          rintro e w3 ⟨g, rfl, hg3, hp3, hb3⟩
          have HB3 := Lib.hid (HB2.out.trans (Below.mono hb3 HB2.out.size))
          have HP3 := Lib.hid (show IsRd w3 w2.heap.size g (pk (codeR p xs)) ((0 : Nat) : Int) from hp3)
          clear hp3 hb3 hg3 HC2 HL2
          obtain ⟨B2, hB2⟩ : ∃ B2, w2.heap.size = B2 := ⟨_, rfl⟩
          have HBS := Lib.hid (show w.heap.size ≤ B2 by rw [← hB2]; exact HB2.out.size)
          rw [hB2] at HP3
          clear hB2 HB2
          go_wp2_with fail
          go_loopw [54] (fun i wr => ∃ (k : Int), 0 ≤ k ∧ k ≤ (xs.length : Int) ∧ i = .int .i64 k ∧ Hid (IsRd wr B2 g (pk (codeR p xs)) (((codeR p (xs.take k.toNat)).length : Nat) : Int) ∧ Below w.heap.size w wr)) (fun i _ => (20 - intOf i).toNat)
          case atStart => exact ⟨0, by omega, by omega, rfl, Lib.hid ⟨HP3.out, HB3.out⟩⟩
          case round =>
            clear HP3 HB3 hlt hk0 hkx
            obtain ⟨k, hk0, hkx, rfl, H⟩ := hrel
            obtain ⟨hp', hb⟩ := H.out
            by_cases hlt : k < (xs.length : Int)
            · obtain ⟨ad, rfl, c0⟩ := at_int (Kd.C_below HR.out hb) k hk0 hlt
              have hin := HWF.out _ (rd_mem' hk0 hlt)
              have hq := HO.out _ (rd_mem' hk0 hlt)
              have hst := codeR_step (p := p) hk0 hlt
              obtain ⟨T, hT⟩ := codeR_rest (p := p) hk0 hlt
              have hple : (codeR p (xs.take k.toNat)).length ≤ 8 * (pk (codeR p xs)).length := by
                have := codeR_take_le p xs k.toNat
                rw [pk_length]
                omega
              obtain ⟨y, hy⟩ : ∃ y : Nat, rd xs k = (y : Int) := ⟨(rd xs k).toNat, by omega⟩
              rw [hy] at c0 hin hq hst hT
              rw [Int.toNat_natCast] at hq hst hT
              have HGET := Lib.hid (show getOf ((allOf (pk (codeR p xs))).drop (codeR p (xs.take k.toNat)).length) p 100 = (y, 0, (riceCode p y).length) by rw [hT, getOf_code p y T hq])
              have HSTL := Lib.hid (show (codeR p (xs.take k.toNat)).length + (riceCode p y).length = (codeR p (xs.take (k + 1).toNat)).length by rw [hst, List.length_append])
              have HPL := Lib.hid hple
              have HP1 := Lib.hid hp'
              have HB1 := Lib.hid hb
              clear hp' hb H hT hple hq hst
              go_wp2_with fail
              have hh := get_calls HP1.out HBY.out HPK.out HPL.out p 100
              rw [HGET.out] at hh
              refine hh.mono ?_
              clear hh
              rintro e w4 ⟨rfl, hp4, hb4⟩
              have HP4 := Lib.hid (show IsRd w4 B2 g (pk (codeR p xs)) (((codeR p (xs.take (k + 1).toNat)).length : Nat) : Int) by rw [← HSTL.out]; exact hp4)
              have HB4 := Lib.hid (HB1.out.trans (Below.mono hb4 HBS.out))
              clear hp4 hb4 HP1 HB1 c0
              go_wp2
              go_roundw
              case rel => exact ⟨k + 1, by omega, by omega, rfl, Lib.hid ⟨HP4.out, HB4.out⟩⟩
              case measure => simp [intOf]; omega
            · have ek : k.toNat = xs.length := by omega
              rw [ek, List.take_length] at hp'
              have HP1 := Lib.hid hp'
              have HB1 := Lib.hid hb
              clear hp' hb H ek
              have HPL := Lib.hid (show (codeR p xs).length ≤ 8 * (pk (codeR p xs)).length by rw [pk_length]; omega)
              have HCE := Lib.hid (codeR_end p xs)
              go_wp2_with fail
              have hh := rd_clean HP1.out HBY.out HPK.out HPL.out
              rw [HCE.out] at hh
              refine hh.mono ?_
              clear hh
              rintro e w4 ⟨rfl, hp4, hb4, hk4⟩
              have HB4 := Lib.hid (HB1.out.trans (Below.mono hb4 HBS.out))
              clear hp4 hb4 hk4 HP1 HB1
              go_wp2_with fail
              refine (awake_calls _).mono ?_
              rintro e w5 ⟨rfl, hb5⟩
              have HB5 := Lib.hid (HB4.out.trans (Below.mono hb5 HB4.out.size))
              clear hb5
              go_wp2
              go_ret
              exact ⟨rfl, HB5.out⟩
end Go.Proofs.Ytakpohcobpbjkaa.Hand
