/- BitBack: walked. -/
import Derived.Test.YtmpkopkibkjgfaaProg
import Derived.Below
import Derived.Deep.Draws
import Derived.Deep.AppendLies
import Derived.Maps.AppendAt
import Derived.OwnWalk
import Derived.Laws.BytesArg
import Derived.Laws.MakeOwn
import Derived.Laws.OwnMore
import Derived.Deep.OwnRows
import Derived.Tactics
import Derived.Lib.ConvBytes
import Derived.Laws.Slices
import Derived.WalkKit
import Derived.KernelRfl
import Derived.RowKit3
import Derived.Deep.LoopGhost
import Derived.Deep.QuietTactic
import Derived.BigQuiet
import Derived.WideLaws
import Derived.Deep.DeepCutAuto
import Derived.Deep.CutBlock
import Derived.Deep.RegionHeld3
import Derived.Laws.Rows
import Derived.Lib.AppendStr
import Derived.ArgAppend
import Derived.Laws.IdiomCopy
import Derived.OrdersHeld
import Derived.Laws.BitsLemmas
import Derived.RowKit
import Derived.StillTailTactics
import Derived.Test.YtmpkopkibkjgfaaWWords
import Derived.Test.YtmpkopkibkjgfaaWLast
import Derived.Test.YtmpkopkibkjgfaaWMore
import Derived.Lib.Hide
import Derived.LaidEql
import Derived.Outline
import Derived.Test.YtmpkopkibkjgfaaAwake
import Derived.Test.YtmpkopkibkjgfaaBitBackPlain
namespace Go.Proofs.Ytmpkopkibkjgfaa.Hand
open Go Go.RowKit Go.Proofs.Ytmpkopkibkjgfaa.Plain Go.Proofs.Ytmpkopkibkjgfaa.PAll Go.Proofs.YtmpkopkibkjgfaaW.PrintWords Go.Proofs.YtmpkopkibkjgfaaW.PrintLast Go.Proofs.YtmpkopkibkjgfaaW.PrintMore
attribute [local go_sem] max2_int min2_int max_two min_two max_three min_three max_four min_four
set_option linter.unusedVariables false
set_option linter.unusedSimpArgs false
set_option maxHeartbeats 8000000 in
set_option maxRecDepth 100000 in
theorem back_calls (A : Option Addr) (c : Nat) (xs0 : List Part) (w : World) (hr0 : Kd.C kOp w A xs0.length xs0) (hc : xs0.length ≤ c) (hm : xs0.length ≤ 9223372036854775807) (hwf : ∀ x ∈ xs0, (Lit.int .u64 x.2.1).wf = true) :
    Calls Try.prog 6 #[.slice A xs0.length c] w fun e w' => e = .returned (.bool true) ∧ Below w.heap.size w w' := by
  obtain ⟨n, hn⟩ : ∃ n : Nat, n = min xs0.length 30 := ⟨_, rfl⟩
  obtain ⟨xs, hxs⟩ : ∃ xs, xs = xs0.take n := ⟨_, rfl⟩
  have hl : xs.length = n := by rw [hxs, List.length_take]; omega
  have HR := Lib.hid (show Kd.C kOp w A xs.length xs by rw [hxs]; exact Kd.C_take hr0 (by omega))
  have HWF := Lib.hid (show ∀ x ∈ xs, (Lit.int .u64 x.2.1).wf = true from fun x hx => hwf x (List.mem_of_mem_take (hxs ▸ hx)))
  have hmin : (if 30 < (xs0.length : Int) then 30 else (xs0.length : Int)) = (n : Int) := by split <;> omega
  have HL := Lib.hid hl
  have h30 : (n : Int) ≤ 30 := by omega
  have hnc : (n : Int) ≤ (c : Int) := by omega
  clear hr0 hwf hxs hn HL
  subst hl
  go_enter Try.func6, Try.ntmps6
  go_wp2_with fail
  refine (new_calls _).mono ?_
  rintro e w1 ⟨rfl, hw, hb⟩
  have HW := Lib.hid hw
  have HB := Lib.hid hb
  clear hw hb
  go_wp2_with fail
  go_loopw [25] (fun i wr => ∃ (k : Int), 0 ≤ k ∧ k ≤ (xs.length : Int) ∧ i = .int .i64 k ∧ Hid (IsB wr w.heap.size w.heap.size (codeAll (xs.take k.toNat)) ∧ Below w.heap.size w wr)) (fun i _ => (30 - intOf i).toNat)
  case atStart => exact ⟨0, by omega, by omega, rfl, Lib.hid ⟨HW.out, HB.out⟩⟩
  case round =>
    obtain ⟨k, hk0, hkx, rfl, H⟩ := hrel
    by_cases hlt : k < (xs.length : Int)
    · obtain ⟨hw, hb⟩ := H.out
      obtain ⟨ad, rfl, c0, c1, c2⟩ := at_op (Kd.C_below HR.out hb) k hk0 hlt
      have HST := Lib.hid (codeAll_step hk0 hlt)
      obtain ⟨⟨b, n, m⟩, hx⟩ : ∃ x, rdP xs k = x := ⟨_, rfl⟩
      have hn := bounds_u64 (HWF.out _ (rdP_mem hk0 hlt))
      have hlen := codeAll_length (xs.take k.toNat)
      rw [List.length_take] at hlen
      rw [hx] at c0 c1 c2 hn HST
      simp only at c0 c1 c2 hn
      obtain ⟨hn0, hn1⟩ := hn
      obtain ⟨l, hl⟩ : ∃ l, codeAll (xs.take k.toNat) = l := ⟨_, rfl⟩
      rw [hl] at hw hlen HST
      have HLN := Lib.hid (show l.length ≤ 800000000 by omega)
      clear hx hlen hl
      have HW1 := Lib.hid (hw.alloc (.cells #[.bool b, .int .u64 n, .int .i64 m] 27))
      have HB1 := Lib.hid (below_alloc hb (.cells #[.bool b, .int .u64 n, .int .i64 m] 27))
      have HGL := Lib.hid hw.cells.1
      clear hw hb H HW HB
      cases b with
      | true =>
        obtain ⟨m1, hm1⟩ : ∃ m1 : Int, mn m 100 = m1 := ⟨_, rfl⟩
        have em : (if 100 < m then 100 else m) = m1 := hm1
        have HST1 := Lib.hid (show codeAll (xs.take (k + 1).toNat) = (l ++ List.replicate (mn (mx m1 0) 65536).toNat true) ++ bitsOf 0 (mn (mx 1 0) 64).toNat by
          rw [HST.out, ← hm1, List.append_assoc]
          rfl)
        have HL2 := Lib.hid (show (l ++ List.replicate (mn (mx m1 0) 65536).toNat true).length ≤ 900000000 by
          have := HLN.out
          have h1 : (mn (mx m1 0) 65536).toNat ≤ 65536 := by unfold mn; split <;> omega
          simp only [List.length_append, List.length_replicate]
          omega)
        clear hm1
        go_wp2_with fail
        refine (ones_bits m1 HW1.out (by have := HLN.out; omega)).mono ?_
        rintro e w2 ⟨rfl, hw2, hb2, hk2⟩
        have HW2 := Lib.hid hw2
        have HB2 := Lib.hid (HB1.out.trans hb2)
        clear hw2 hb2 hk2 HW1 HB1 c0 c1 c2
        go_wp2_with fail
        refine (put_int 0 1 HW2.out (by omega) (by omega) HL2.out).mono ?_
        rintro e w3 ⟨rfl, hw3, hb3, hk3⟩
        have HW3 := Lib.hid (show IsB w3 w.heap.size w.heap.size (codeAll (xs.take (k + 1).toNat)) by rw [HST1.out]; exact hw3)
        have HB3 := Lib.hid (HB2.out.trans hb3)
        clear hw3 hb3 hk3 HW2 HB2
        go_wp2
        go_roundw
        case rel => exact ⟨k + 1, by omega, by omega, rfl, Lib.hid ⟨HW3.out, HB3.out⟩⟩
        case measure => simp [intOf]; omega
      | false =>
        go_wp2_with fail
        refine (put_int n m HW1.out hn0 (by omega) (by have := HLN.out; omega)).mono ?_
        rintro e w3 ⟨rfl, hw3, hb3, hk3⟩
        have HW3 := Lib.hid (show IsB w3 w.heap.size w.heap.size (codeAll (xs.take (k + 1).toNat)) by rw [HST.out]; exact hw3)
        have HB3 := Lib.hid (HB1.out.trans hb3)
        clear hw3 hb3 hk3 HW1 HB1 c0 c1 c2
        go_wp2
        go_roundw
        case rel => exact ⟨k + 1, by omega, by omega, rfl, Lib.hid ⟨HW3.out, HB3.out⟩⟩
        case measure => simp [intOf]; omega
    · obtain ⟨hw, hb⟩ := H.out
      have ek : k.toNat = xs.length := by omega
      rw [ek, List.take_length] at hw
      have hlen := codeAll_length xs
      have HLN := Lib.hid (show (codeAll xs).length ≤ 4000 by omega)
      have HPK := Lib.hid (show (pk (codeAll xs)).length ≤ 1000 by rw [pk_length]; omega)
      have HW1 := Lib.hid hw
      have HB1 := Lib.hid hb
      clear hw hb H HW HB ek hlen
      go_wp2_with fail
      refine (bytes_bits HW1.out (by have := HLN.out; omega)).mono ?_
      rintro e w2 ⟨v, rfl, hv, hb2⟩
      obtain ⟨A2, c2, rfl, hc2, hC2⟩ := Kd.R_reads hv
      have HC2 := Lib.hid hC2
      have HL2 := Lib.hid hc2
      have HB2 := Lib.hid (HB1.out.trans (Below.mono hb2 HB1.out.size))
      have HBY := Lib.hid (pk_bytes (codeAll xs))
      clear hv hb2 hC2 hc2 HW1 HB1
      go_wp2_with fail
      refine (of_calls A2 _ c2 (pk (codeAll xs)) _ rfl HC2.out HL2.out (by have := HPK.out; omega)).mono ?_
      rintro e w3 ⟨g, rfl, hg3, hp3, hb3⟩
      have HG := Lib.hid hg3
      have HB3 := Lib.hid (HB2.out.trans (Below.mono hb3 HB2.out.size))
      have HP3 := Lib.hid (show IsRd w3 w2.heap.size g (pk (codeAll xs)) ((0 : Nat) : Int) from hp3)
      clear hp3 hb3 hg3 HC2 HL2
      obtain ⟨B2, hB2⟩ : ∃ B2, w2.heap.size = B2 := ⟨_, rfl⟩
      have HBS := Lib.hid (show w.heap.size ≤ B2 by rw [← hB2]; exact HB2.out.size)
      rw [hB2] at HP3
      clear hB2 HB2 HG
      go_wp2_with fail
      go_loopw [52] (fun i wr => ∃ (k : Int), 0 ≤ k ∧ k ≤ (xs.length : Int) ∧ i = .int .i64 k ∧ Hid (IsRd wr B2 g (pk (codeAll xs)) (((codeAll (xs.take k.toNat)).length : Nat) : Int) ∧ Below w.heap.size w wr)) (fun i _ => (30 - intOf i).toNat)
      case atStart => exact ⟨0, by omega, by omega, rfl, Lib.hid ⟨HP3.out, HB3.out⟩⟩
      case round =>
        clear HP3 HB3 hlt hk0 hkx
        obtain ⟨k, hk0, hkx, rfl, H⟩ := hrel
        obtain ⟨hp, hb⟩ := H.out
        by_cases hlt : k < (xs.length : Int)
        · obtain ⟨ad, rfl, c0, c1, c2⟩ := at_op (Kd.C_below HR.out hb) k hk0 hlt
          have HST := Lib.hid (codeAll_step hk0 hlt)
          obtain ⟨T, hT⟩ := codeAll_rest hk0 hlt
          obtain ⟨⟨b, n, m⟩, hx⟩ : ∃ x, rdP xs k = x := ⟨_, rfl⟩
          have hn := bounds_u64 (HWF.out _ (rdP_mem hk0 hlt))
          rw [hx] at c0 c1 c2 hn HST hT
          simp only at c0 c1 c2 hn
          obtain ⟨hn0, hn1⟩ := hn
          have hple : (codeAll (xs.take k.toNat)).length ≤ 8 * (pk (codeAll xs)).length := by
            have := codeAll_take_le xs k.toNat
            rw [pk_length]
            omega
          have HT := Lib.hid hT
          have HPL := Lib.hid hple
          have HPR1 := Lib.hid (hp.alloc (.cells #[.bool b, .int .u64 n, .int .i64 m] 27))
          have HBR1 := Lib.hid (below_alloc hb (.cells #[.bool b, .int .u64 n, .int .i64 m] 27))
          have hbox : (wr.alloc (.cells #[.bool b, .int .u64 n, .int .i64 m] 27)).heap[wr.heap.size]? = some (.cells #[.bool b, .int .u64 n, .int .i64 m] 27 (0, 0)) := by simpa using heap_alloc_new wr _
          have HBOX := Lib.hid hbox
          have HNE : Hid (wr.heap.size ≠ g) := Lib.hid (by have := hp.lt; omega)
          have HLT : Hid (wr.heap.size < (wr.alloc (.cells #[.bool b, .int .u64 n, .int .i64 m] 27)).heap.size) := Lib.hid (by simp)
          clear hbox hp hb H hx hT hple
          cases b with
          | true =>
            obtain ⟨j, hj, hjt, hj100⟩ : ∃ j : Nat, (mn (mx (mn m 100) 0) 65536).toNat = j ∧ mn (mx m 0) 100 = (j : Int) ∧ j ≤ 100 := by
              refine ⟨_, rfl, ?_, ?_⟩ <;> unfold mn mx <;> repeat' split
              all_goals omega
            have hcode : codeOf (true, n, m) = List.replicate j true ++ [false] := by unfold codeOf; simp only [if_true]; rw [hj]
            have hrun : runOf ((allOf (pk (codeAll xs))).drop (codeAll (xs.take k.toNat)).length) 100 = (j, 0, j + 1) := by rw [HT.out, hcode, runOf_code j T hj100]
            have HRUN := Lib.hid hrun
            have HSTL := Lib.hid (show (codeAll (xs.take k.toNat)).length + (j + 1) = (codeAll (xs.take (k + 1).toNat)).length by rw [HST.out, hcode]; simp)
            have HJT := Lib.hid hjt
            have hjj : ((j : Int) != (j : Int)) = false := by simp
            clear hcode hrun hj hjt
            go_wp2_with fail
            have hh := rd_run HPR1.out HBY.out HPK.out HPL.out 100 (by omega)
            rw [show (mx (100 : Int) 0).toNat = 100 from rfl, HRUN.out] at hh
            refine hh.mono ?_
            clear hh
            rintro e w4 ⟨rfl, hp4, hb4, hk4⟩
            have HP4 := Lib.hid (show IsRd w4 B2 g (pk (codeAll xs)) (((codeAll (xs.take (k + 1).toNat)).length : Nat) : Int) by rw [← HSTL.out]; exact hp4)
            have HB4 := Lib.hid (HBR1.out.trans (Below.mono hb4 HBS.out))
            have hbx := (hk4.2 _ HLT.out HNE.out (by simp)).trans HBOX.out
            have hcl1 : w4.cell? ⟨wr.heap.size, 1, none⟩ = some (.int .u64 n) := (blk_cell hbx 1).trans rfl
            have hcl2 : w4.cell? ⟨wr.heap.size, 2, none⟩ = some (.int .i64 m) := (blk_cell hbx 2).trans rfl
            clear hp4 hb4 hk4 hbx HPR1 HBR1 c0 c1 c2
            go_wp2_with fail
            refine (held2_calls m 0 100 _ HJT.out _).mono ?_
            rintro e w5 ⟨rfl, rfl⟩
            go_wp2
            go_roundw
            case rel => exact ⟨k + 1, by omega, by omega, rfl, Lib.hid ⟨HP4.out, HB4.out⟩⟩
            case measure => simp [intOf]; omega
          | false =>
            obtain ⟨q, hq, hq64⟩ : ∃ q : Nat, mn (mx m 0) 64 = (q : Int) ∧ q ≤ 64 := by
              refine ⟨(mn (mx m 0) 64).toNat, ?_, ?_⟩ <;> unfold mn mx <;> repeat' split
              all_goals omega
            have hcode : codeOf (false, n, m) = bitsOf n.toNat q := by unfold codeOf; rw [if_neg (by simp)]; show bitsOf n.toNat (mn (mx m 0) 64).toNat = _; rw [hq]; rfl
            have htake : takeOf ((allOf (pk (codeAll xs))).drop (codeAll (xs.take k.toNat)).length) q = (n.toNat % 2 ^ q, 0, q) := by rw [HT.out, hcode, takeOf_code]
            have HRUN := Lib.hid htake
            have HSTL := Lib.hid (show (codeAll (xs.take k.toNat)).length + q = (codeAll (xs.take (k + 1).toNat)).length by rw [HST.out, hcode]; simp [bitsOf_length])
            have HQ := Lib.hid hq
            clear hcode htake hq
            have hcl1 : (wr.alloc (.cells #[.bool false, .int .u64 n, .int .i64 m] 27)).cell? ⟨wr.heap.size, 1, none⟩ = some (.int .u64 n) := (blk_cell HBOX.out 1).trans rfl
            have hcl2 : (wr.alloc (.cells #[.bool false, .int .u64 n, .int .i64 m] 27)).cell? ⟨wr.heap.size, 2, none⟩ = some (.int .i64 m) := (blk_cell HBOX.out 2).trans rfl
            have hp64 := Nat.two_pow_pos q
            obtain ⟨P, hP⟩ : ∃ P : Nat, 2 ^ q = P := ⟨_, rfl⟩
            go_wp2_with fail
            refine (held2_calls m 0 64 _ HQ.out _).mono ?_
            rintro e w5 ⟨rfl, rfl⟩
            clear c0 c1 c2 HBOX HNE HLT
            generalize wr.alloc (.cells #[.bool false, .int .u64 n, .int .i64 m] 27) = W at HPR1 HBR1 hcl1 hcl2 ⊢
            by_cases h64 : (q : Int) < 64
            · have hq2 : 2 ^ q < 2 ^ 64 := Nat.pow_lt_pow_right (by decide) (by omega)
              have hwr : IntKind.u64.wrap (1 * 2 ^ q) = (P : Int) := by
                have : (1 : Int) * 2 ^ q = ((2 ^ q : Nat) : Int) := by simp
                rw [this, u64w_id (Int.natCast_nonneg _) (by omega), hP]
              have hwr2 : IntKind.u64.wrap (2 ^ q) = (P : Int) := by rw [← hwr, Int.one_mul]
              have hPp : (P : Int) ≠ 0 := by omega
              have hPz : (P = 0) = False := eq_false (by omega)
              have hPb : ((P : Int) == 0) = false := beq_eq_false_iff_ne.2 hPp
              have hq0 : (0 ≤ (q : Int)) = True := eq_true (Int.natCast_nonneg _)
              have hmod : n.tmod (P : Int) = ((n.toNat % 2 ^ q : Nat) : Int) := by
                rw [Int.tmod_eq_emod_of_nonneg hn0, hP, Int.natCast_emod, Int.toNat_of_nonneg hn0]
              obtain ⟨z, hz⟩ : ∃ z : Int, ((n.toNat % 2 ^ q : Nat) : Int) = z := ⟨_, rfl⟩
              rw [hz] at hmod
              go_wp2_with fail
              go_still_tail 5, (by kernel_rfl)
              change wpList _ _ _ _ _ W.drew
              have HP1 := Lib.hid (HPR1.out.drewN 1)
              have HB1 := Lib.hid (pw_below_drewN HBR1.out 1)
              have hcl3 : W.drew.cell? ⟨wr.heap.size, 2, none⟩ = some (.int .i64 m) := hcl2
              clear HPR1 HBR1 hcl1 hcl2
              have hcl1 := hcl3
              have hcl2 := hcl3
              have hzz : (z != z) = false := by simp
              clear hwr hwr2 hPp hPz hPb hmod
              go_wp2_with fail
              have hh := rd_take HP1.out HBY.out HPK.out HPL.out m
              rw [HQ.out, Int.toNat_natCast, HRUN.out] at hh
              refine hh.mono ?_
              clear hh
              rintro e w4 ⟨rfl, hp4, hb4, hk4⟩
              have HP4 := Lib.hid (show IsRd w4 B2 g (pk (codeAll xs)) (((codeAll (xs.take (k + 1).toNat)).length : Nat) : Int) by rw [← HSTL.out]; exact hp4)
              have HB4 := Lib.hid (HB1.out.trans (Below.mono hb4 HBS.out))
              clear hp4 hb4 hk4 HP1 HB1 hcl1 hcl2
              simp only [hz]
              go_wp2
              go_roundw
              case rel => exact ⟨k + 1, by omega, by omega, rfl, Lib.hid ⟨HP4.out, HB4.out⟩⟩
              case measure => simp [intOf]; omega
            · have eq64 : q = 64 := by omega
              have hn64 : ((n.toNat % 2 ^ q : Nat) : Int) = n := by rw [eq64, Nat.mod_eq_of_lt (by omega), Int.toNat_of_nonneg hn0]
              have hz := hn64
              have hzz : (n != n) = false := by simp
              have HP1 := HPR1
              have HB1 := HBR1
              clear HPR1 HBR1 hn64 eq64
              go_wp2_with fail
              have hh := rd_take HP1.out HBY.out HPK.out HPL.out m
              rw [HQ.out, Int.toNat_natCast, HRUN.out] at hh
              refine hh.mono ?_
              clear hh
              rintro e w4 ⟨rfl, hp4, hb4, hk4⟩
              have HP4 := Lib.hid (show IsRd w4 B2 g (pk (codeAll xs)) (((codeAll (xs.take (k + 1).toNat)).length : Nat) : Int) by rw [← HSTL.out]; exact hp4)
              have HB4 := Lib.hid (HB1.out.trans (Below.mono hb4 HBS.out))
              clear hp4 hb4 hk4 HP1 HB1 hcl1 hcl2
              simp only [hz]
              go_wp2
              go_roundw
              case rel => exact ⟨k + 1, by omega, by omega, rfl, Lib.hid ⟨HP4.out, HB4.out⟩⟩
              case measure => simp [intOf]; omega
        · have ek : k.toNat = xs.length := by omega
          rw [ek, List.take_length] at hp
          have HP1 := Lib.hid hp
          have HB1 := Lib.hid hb
          clear hp hb H ek
          have HPL := Lib.hid (show (codeAll xs).length ≤ 8 * (pk (codeAll xs)).length by rw [pk_length]; omega)
          have HCE := Lib.hid (codeAll_end xs)
          go_wp2_with fail
          have hh := rd_clean HP1.out HBY.out HPK.out HPL.out
          rw [HCE.out] at hh
          refine hh.mono ?_
          clear hh
          rintro e w4 ⟨rfl, hp4, hb4, hk4⟩
          have HB4 := Lib.hid (HB1.out.trans (Below.mono hb4 HBS.out))
          clear hp4 hb4 hk4 HP1 HB1
          go_wp2_with fail
          refine (awake_calls _).mono ?_
          rintro e w5 ⟨rfl, hb5⟩
          have HB5 := Lib.hid (HB4.out.trans (Below.mono hb5 HB4.out.size))
          clear hb5
          go_wp2
          go_ret
          exact ⟨rfl, HB5.out⟩
end Go.Proofs.Ytmpkopkibkjgfaa.Hand
