/- OctetJoins: walked. -/
import Derived.Test.YtcgaakbehgpmmaaProg
import Derived.Below
import Derived.Deep.Draws
import Derived.Deep.AppendLies
import Derived.Maps.AppendAt
import Derived.OwnWalk
import Derived.Laws.BytesArg
import Derived.Laws.MakeOwn
import Derived.Laws.OwnMore
import Derived.Deep.OwnRows
import Derived.Tactics
import Derived.Lib.ConvBytes
import Derived.Laws.Slices
import Derived.WalkKit
import Derived.KernelRfl
import Derived.RowKit3
import Derived.Deep.LoopGhost
import Derived.Deep.QuietTactic
import Derived.BigQuiet
import Derived.WideLaws
import Derived.Deep.DeepCutAuto
import Derived.Deep.CutBlock
import Derived.Deep.RegionHeld3
import Derived.Laws.Rows
import Derived.Lib.AppendStr
import Derived.ArgAppend
import Derived.Laws.IdiomCopy
import Derived.OrdersHeld
import Derived.Laws.BitsLemmas
import Derived.RowKit
import Derived.StillTailTactics
import Derived.Test.YtcgaakbehgpmmaaWWords
import Derived.Test.YtcgaakbehgpmmaaWLast
import Derived.Test.YtcgaakbehgpmmaaWMore
import Derived.WalkSpells
import Derived.Lib.Hide
import Derived.Outline
import Derived.Test.YtcgaakbehgpmmaaJoin
import Derived.Test.YtcgaakbehgpmmaaMAlln1
namespace Go.Proofs.Ytcgaakbehgpmmaa.Hand
open Go Go.RowKit Go.Proofs.Ytcgaakbehgpmmaa.Plain Go.Proofs.Ytcgaakbehgpmmaa.PAll Go.Proofs.YtcgaakbehgpmmaaW.PrintWords Go.Proofs.YtcgaakbehgpmmaaW.PrintLast Go.Proofs.YtcgaakbehgpmmaaW.PrintMore
set_option linter.unusedVariables false
set_option linter.unusedSimpArgs false
theorem little_loop (n L : Nat) (hL : L ≤ 8) (d : Nat) : ∀ (k : Nat) (xs : List Int) (i : Nat), xs.length = L → i + d = L → d < k → octet_Little.l0 k (n : Int) xs (L : Int) (i : Int) = some (xs.take i ++ digs d (n / 256 ^ i)) := by
  induction d with
  | zero =>
    intro k xs i hx hi hk
    obtain ⟨k, rfl⟩ : ∃ m, k = m + 1 := ⟨k - 1, by omega⟩
    simp only [octet_Little.l0]
    rw [if_neg (by omega)]
    simp [digs, List.take_of_length_le (by omega : xs.length ≤ i)]
  | succ d ih =>
    intro k xs i hx hi hk
    obtain ⟨k, rfl⟩ : ∃ m, k = m + 1 := ⟨k - 1, by omega⟩
    simp only [octet_Little.l0]
    have e1 : wrap64 (8 * (i : Int)) = ((8 * i : Nat) : Int) := by rw [wrap64_id (by omega) (by omega)]; simp
    have e2 : wrap64 ((i : Int) + 1) = ((i + 1 : Nat) : Int) := wrap64_succ (by omega)
    rw [if_pos (by omega), e1, if_pos (by omega), if_pos (by omega), if_pos (by omega), e2, ih k _ (i + 1) (by simpa using hx) (by omega) (by omega)]
    rw [show ((i : Int)).toNat = i from by simp, take_set_succ _ _ _ (by omega), shr_byte n i (by omega)]
    simp [digs, List.append_assoc, Nat.pow_succ, Nat.div_div_eq_div_mul]
/-- The width that counts. -/
def wid (w : Int) : Nat := (mn (mx w 0) 8).toNat
theorem wid_le (w : Int) : wid w ≤ 8 := by unfold wid mn mx; split <;> split <;> omega
theorem little_tells (n : Nat) (w : Int) (k : Nat) (hk : 10 ≤ k) : octet_Little.f k (n : Int) w = some (digs (wid w) n) := by
  have hw := wid_le w
  unfold octet_Little.f
  have h0 : 0 ≤ mn (mx w 0) 8 := by unfold mn mx; split <;> split <;> omega
  rw [if_pos h0, if_pos (by unfold wid at hw; omega)]
  simp only [Option.bind_some]
  have e := little_loop n (wid w) hw (wid w) k (List.replicate (wid w) 0) 0 (by simp) (by simp) (by omega)
  simpa [wid] using e
theorem rd_nat (xs : List Int) (i : Nat) : rd xs (i : Int) = xs.getD i 0 := by simp [rd]
theorem reverse_loop (d : Nat) : ∀ (k : Nat) (a m b : List Int), m.length = d → d < k → a.length + d + b.length < 1000000 →
    slices_Reverse_byte_byte.l0 k (a ++ m ++ b) (a.length : Int) ((a.length : Int) + d - 1) = some (a ++ m.reverse ++ b) := by
  induction d using Nat.strongRecOn with
  | _ d ih =>
    intro k a m b hm hk hb
    obtain ⟨k, rfl⟩ : ∃ j, k = j + 1 := ⟨k - 1, by omega⟩
    simp only [slices_Reverse_byte_byte.l0]
    by_cases h : d ≤ 1
    · rw [if_neg (by omega)]
      match m, hm with
      | [], _ => rfl
      | [x], _ => rfl
      | x :: y :: m, hm => simp at hm; omega
    · obtain ⟨x, m1, rfl⟩ : ∃ x m1, m = x :: m1 := by
        cases m with
        | nil => simp at hm; omega
        | cons x m1 => exact ⟨x, m1, rfl⟩
      obtain ⟨m2, y, rfl⟩ : ∃ m2 y, m1 = m2 ++ [y] := by
        have : m1 ≠ [] := by intro e; subst e; simp at hm; omega
        exact ⟨m1.dropLast, m1.getLast this, (List.dropLast_concat_getLast this).symm⟩
      have hl : m2.length + 2 = d := by simp at hm; omega
      have hlen : (a ++ (x :: (m2 ++ [y])) ++ b).length = a.length + d + b.length := by simp; omega
      have ej : ((a.length : Int) + d - 1) = ((a.length + (m2.length + 1) : Nat) : Int) := by omega
      rw [ej]
      rw [if_pos (by omega), if_pos (by omega), if_pos (by omega), if_pos (by omega), if_pos (by omega)]
      rw [rd_nat, rd_nat]
      have r1 : (a ++ (x :: (m2 ++ [y])) ++ b).getD (a.length + (m2.length + 1)) 0 = y := by
        simp [List.getD_eq_getElem?_getD, List.append_assoc]
      have r2 : (a ++ (x :: (m2 ++ [y])) ++ b).getD a.length 0 = x := by
        simp [List.getD_eq_getElem?_getD, List.append_assoc]
      rw [r1, r2]
      have s1 : ((a ++ (x :: (m2 ++ [y])) ++ b).set ((a.length : Int)).toNat y).set (((a.length + (m2.length + 1) : Nat) : Int)).toNat x = (a ++ [y]) ++ m2 ++ (x :: b) := by
        rw [Int.toNat_natCast, Int.toNat_natCast]
        simp [List.append_assoc, List.set_append, Nat.add_sub_cancel_left]
      rw [s1]
      have e1 : wrap64 ((a.length : Int) + 1) = ((a ++ [y]).length : Int) := by rw [wrap64_id (by omega) (by omega)]; simp
      have e2 : wrap64 (((a.length + (m2.length + 1) : Nat) : Int) - 1) = ((a ++ [y]).length : Int) + (m2.length : Nat) - 1 := by
        rw [wrap64_id (by omega) (by omega)]; simp; omega
      rw [e1, e2, ih m2.length (by omega) k (a ++ [y]) m2 (x :: b) rfl (by omega) (by simp; omega)]
      simp [List.append_assoc]
theorem reverse_tells (xs : List Int) (k : Nat) (hk : xs.length < k) (hl : xs.length < 1000000) : slices_Reverse_byte_byte.f k xs = some xs.reverse := by
  unfold slices_Reverse_byte_byte.f
  have := reverse_loop xs.length k [] xs [] rfl hk (by simpa using hl)
  rw [wrap64_id (by omega) (by omega)]
  simpa using this
theorem great_tells (n : Nat) (w : Int) (k : Nat) (hk : 10 ≤ k) : octet_Great.f k (n : Int) w = some (digs (wid w) n).reverse := by
  have hw := wid_le w
  unfold octet_Great.f
  rw [little_tells n w k hk]
  simp only [Option.bind_some]
  rw [reverse_tells _ k (by rw [digs_length]; omega) (by rw [digs_length]; omega)]
  rfl
theorem awake_ok (k : Nat) (hk : 10 ≤ k) : mastheadlaw01_awake.f k = some true := by
  unfold mastheadlaw01_awake.f
  have h1 := little_tells 258 3 k hk
  have h2 := great_tells 258 3 k hk
  have e : (258 : Int) = ((258 : Nat) : Int) := rfl
  rw [e, h1, h2]
  decide +kernel
theorem awake_calls (w : World) : Calls Try.prog 14 #[] w fun e w' => e = .returned (.bool true) ∧ Below w.heap.size w w' := mastheadlaw01_awake.calls 20 true w (awake_ok 20 (by omega))
theorem str_append (a b : List Int) : strOfNums (a ++ b) = strOfNums a ++ strOfNums b := by
  apply ByteArray.ext
  simp [strOfNums, ByteArray.data_append]
theorem join_calls (A : Option Addr) (c : Nat) (xs : List (List Int)) (w : World) (hr : Kd.C (Kd.slice 5 (Kd.int .u8)) w A xs.length xs) (hlen : xs.length ≤ 1000000) (hfl : xs.flatten.length ≤ 1000000) :
    Calls Try.prog 25 #[.slice A xs.length c] w fun e w' => ∃ v : Value, e = .returned v ∧ Kd.R (Kd.int .u8) 5 w' w.heap.size (fun _ => True) v xs.flatten ∧ Below w.heap.size w w' := by
  have H := Lib.hid (concat_calls A c xs w hr hlen hfl)
  clear hr hlen hfl
  go_enter Try.func25, Try.ntmps25
  go_wp2_with fail
  refine H.out.mono ?_
  rintro e w1 ⟨v, rfl, hv, hb⟩
  have HV := Lib.hid hv
  have HB := Lib.hid hb
  clear hv hb H
  go_wp2
  go_ret
  exact ⟨_, rfl, HV.out, HB.out⟩
set_option maxHeartbeats 8000000 in
set_option maxRecDepth 100000 in
theorem joins_calls (A : Option Addr) (c : Nat) (xs : List (List Int)) (w : World) (hr : Kd.C (Kd.slice 5 (Kd.int .u8)) w A xs.length xs) (hm : xs.length ≤ 9223372036854775807) :
    Calls Try.prog 8 #[.slice A xs.length c] w fun e w' => e = .returned (.bool true) ∧ Below w.heap.size w w' := by
  have HR := Lib.hid hr
  clear hr
  go_enter Try.func8, Try.ntmps8
  go_wp2_with fail
  go_loopw [3, 13] (fun v i wr => ∃ (k : Int), 0 ≤ k ∧ k ≤ 40 ∧ k ≤ (xs.length : Int) ∧ i = .int .i64 k ∧ w = wr ∧ ∃ s, v = .string s ∧ Hid (s = strOfNums (xs.take k.toNat).flatten ∧ ((xs.take k.toNat).flatten.length : Int) ≤ 100 * k)) (fun _ i _ => (40 - intOf i).toNat)
  case atStart => exact ⟨0, by omega, by omega, by omega, rfl, rfl, _, rfl, Lib.hid ⟨rfl, by simp⟩⟩
  case round =>
    obtain ⟨k, hk0, hk40, hkx, rfl, rfl, s, rfl, H⟩ := hrel
    by_cases hlt : k < (xs.length : Int)
    · obtain ⟨ad, A', c', rfl, c0, hl0, hC⟩ := at_row HR.out k hk0 hlt
      have hst := flat_step hk0 hlt
      by_cases h39 : 39 < k
      · have f1 : decide (39 < k) = true := decide_eq_true h39
        clear hst hC hl0 H
        go_wp2_with fail
        refine (awake_calls _).mono ?_
        rintro e w3 ⟨rfl, hb3⟩
        have HB3 := Lib.hid hb3
        clear hb3
        go_wp2
        go_ret
        exact ⟨rfl, HB3.out⟩
      · have f1 : decide (39 < k) = false := decide_eq_false h39
        by_cases h100 : 100 < (rdR xs k).length
        · have f2 : decide (100 < ((rdR xs k).length : Int)) = true := decide_eq_true (by omega)
          clear hst hC hl0 H h100
          go_wp2_with fail
          refine (awake_calls _).mono ?_
          rintro e w3 ⟨rfl, hb3⟩
          have HB3 := Lib.hid hb3
          clear hb3
          go_wp2
          go_ret
          exact ⟨rfl, HB3.out⟩
        · have f2 : decide (100 < ((rdR xs k).length : Int)) = false := decide_eq_false (by omega)
          obtain ⟨hs, hl⟩ := H.out
          have hcv := Kd.C_string (P := Try.prog) (c := c') Try.underlying26 Try.underlying5 Try.underlying9 hC
          obtain ⟨t, ht⟩ : ∃ t, strOfNums (rdR xs k) = t := ⟨_, rfl⟩
          rw [ht] at hcv
          have hts : t.size = (rdR xs k).length := by rw [← ht, strOfNums_size]
          have hss : s.size = (xs.take k.toNat).flatten.length := by rw [hs, strOfNums_size]
          have f3 : (9223372036854775807 < s.size + t.size) = False := eq_false (by omega)
          have HN := Lib.hid (show s ++ t = strOfNums (xs.take (k + 1).toNat).flatten ∧ ((xs.take (k + 1).toNat).flatten.length : Int) ≤ 100 * (k + 1) by
            rw [hst, str_append, ← hs, ht]
            refine ⟨rfl, ?_⟩
            rw [List.length_append]
            omega)
          clear hs hl ht hts hss hst hC hl0 H h100
          go_wp2
          go_roundw
          case rel => exact ⟨k + 1, by omega, by omega, by omega, rfl, by first | trivial | rfl, _, rfl, Lib.hid HN.out⟩
          case measure => simp [intOf]; omega
    · obtain ⟨hs, hl⟩ := H.out
      have ek : k.toNat = xs.length := by omega
      rw [ek, List.take_length] at hs hl
      have HS := Lib.hid hs
      have HL := Lib.hid (show xs.length ≤ 40 ∧ xs.flatten.length ≤ 4000 by omega)
      clear hs hl H ek
      go_wp2_with fail
      refine (join_calls A c xs _ HR.out (by have := HL.out; omega) (by have := HL.out; omega)).mono ?_
      rintro e w1 ⟨v, rfl, hv, hb⟩
      obtain ⟨A1, c1, rfl⟩ := Kd.R_slice hv
      have hcv := own_string (P := Try.prog) Try.underlying26 Try.underlying5 Try.underlying9 (Kd.own_of_R hv)
      rw [← HS.out] at hcv
      have HFL := Lib.hid HL.out.2
      obtain ⟨L, hL⟩ : ∃ L, xs.flatten.length = L := ⟨_, rfl⟩
      have HV := Lib.hid (show ∃ ys : List Int, ys.length = L ∧ Kd.R (Kd.int .u8) 5 w1 w.heap.size (fun _ => True) (.slice A1 L c1) ys from ⟨xs.flatten, hL, by rw [← hL]; exact hv⟩)
      have HB := Lib.hid hb
      rw [hL] at hcv HFL ⊢
      have HM := Lib.hid (show L ≤ 4000 from HFL.out)
      clear hv hb hL HFL
      go_wp2_with fail
      clear hcv
      go_loopw [39] (fun i wr => ∃ (k : Int), 0 ≤ k ∧ k ≤ (L : Int) ∧ i = .int .i64 k ∧ Hid ((∃ ys : List Int, ys.length = L ∧ Kd.R (Kd.int .u8) 5 wr w.heap.size (fun _ => True) (.slice A1 L c1) ys) ∧ Below w.heap.size w wr)) (fun i _ => ((L : Int) - intOf i).toNat)
      case atStart => exact ⟨0, by omega, by omega, rfl, Lib.hid ⟨HV.out, HB.out⟩⟩
      case round =>
        clear HV HB hlt hk0 hk40 hkx
        obtain ⟨k, hk0, hkL, rfl, H⟩ := hrel
        obtain ⟨⟨ys, hyl, hR⟩, hb⟩ := H.out
        have HR2 := Lib.hid hR
        have HB2 := Lib.hid hb
        have HYL := Lib.hid hyl
        by_cases hlt : k < (L : Int)
        · obtain ⟨g, cap, he, hg, _, _⟩ := Kd.R_form hR (by omega)
          injection he with ha _ _
          subst ha
          obtain ⟨hx, hf⟩ := Kd.R_celln 0 hR k hk0 hlt
          have HP := Lib.hid (fun x : Int => Kd.R_putn hR k x)
          have HG := Lib.hid hg
          have HML := HM.out
          clear hR hb hyl H hg
          go_wp2
          go_roundw
          case rel => exact ⟨k + 1, by omega, by omega, rfl, Lib.hid ⟨⟨_, by rw [List.length_set]; exact HYL.out, HP.out _⟩, HB2.out.setCell (p := ⟨g, k.toNat, none⟩) HG.out _⟩⟩
          case measure => simp [intOf]; omega
        · have HML := HM.out
          clear hR hb hyl H
          go_wp2_with fail
          go_loopw [8, 51] (fun v i wr => ∃ (k : Int), 0 ≤ k ∧ k ≤ 40 ∧ k ≤ (xs.length : Int) ∧ i = .int .i64 k ∧ ∃ s2, v = .string s2 ∧ Hid (s2 = strOfNums (xs.take k.toNat).flatten ∧ Below w.heap.size w wr)) (fun _ i _ => (40 - intOf i).toNat)
          case atStart => exact ⟨0, by omega, by omega, by omega, rfl, _, rfl, Lib.hid ⟨rfl, HB2.out⟩⟩
          case round =>
            clear HB2 HR2 HYL hlt hk0 hkL HML
            obtain ⟨k, hk0, hk40, hkx, rfl, s2, rfl, H⟩ := hrel
            obtain ⟨hs2, hb⟩ := H.out
            have HB3 := Lib.hid hb
            have hk41 : (xs.length : Int) ≤ 40 := by have := HL.out; omega
            by_cases hlt : k < (xs.length : Int)
            · obtain ⟨ad, A', c', rfl, c0, hl0, hC⟩ := at_row (Kd.C_below HR.out hb) k hk0 hlt
              have hst := flat_step hk0 hlt
              have hle := flat_take_le xs (k + 1).toNat
              have hcv := Kd.C_string (P := Try.prog) (c := c') Try.underlying26 Try.underlying5 Try.underlying9 hC
              obtain ⟨t, ht⟩ : ∃ t, strOfNums (rdR xs k) = t := ⟨_, rfl⟩
              rw [ht] at hcv
              have hsz : s2.size + t.size ≤ 4000 := by
                have h1 := HL.out.2
                rw [hs2, ← ht, strOfNums_size, strOfNums_size]
                rw [hst, List.length_append] at hle
                omega
              have f3 : (9223372036854775807 < s2.size + t.size) = False := eq_false (by omega)
              have HN := Lib.hid (show s2 ++ t = strOfNums (xs.take (k + 1).toNat).flatten by rw [hst, str_append, ← hs2, ht])
              clear hs2 hb ht hst hle hsz hC hl0 H
              go_wp2
              go_roundw
              case rel => exact ⟨k + 1, by omega, by omega, by omega, rfl, _, rfl, Lib.hid ⟨HN.out, HB3.out⟩⟩
              case measure => simp [intOf]; omega
            · have ek : k.toNat = xs.length := by omega
              rw [ek, List.take_length, ← HS.out] at hs2
              subst hs2
              clear hb H ek
              go_wp2_with fail
              refine (awake_calls _).mono ?_
              rintro e w3 ⟨rfl, hb3⟩
              have HB4 := Lib.hid (HB3.out.trans (Below.mono hb3 HB3.out.size))
              clear hb3
              go_wp2
              go_ret
              exact ⟨rfl, HB4.out⟩
end Go.Proofs.Ytcgaakbehgpmmaa.Hand
