/- BitParts: walked. -/
import Derived.Test.YtmpkopkibkjgfaaProg
import Derived.Below
import Derived.Deep.Draws
import Derived.Deep.AppendLies
import Derived.Maps.AppendAt
import Derived.OwnWalk
import Derived.Laws.BytesArg
import Derived.Laws.MakeOwn
import Derived.Laws.OwnMore
import Derived.Deep.OwnRows
import Derived.Tactics
import Derived.Lib.ConvBytes
import Derived.Laws.Slices
import Derived.WalkKit
import Derived.KernelRfl
import Derived.RowKit3
import Derived.Deep.LoopGhost
import Derived.Deep.QuietTactic
import Derived.BigQuiet
import Derived.WideLaws
import Derived.Deep.DeepCutAuto
import Derived.Deep.CutBlock
import Derived.Deep.RegionHeld3
import Derived.Laws.Rows
import Derived.Lib.AppendStr
import Derived.ArgAppend
import Derived.Laws.IdiomCopy
import Derived.OrdersHeld
import Derived.Laws.BitsLemmas
import Derived.RowKit
import Derived.StillTailTactics
import Derived.Test.YtmpkopkibkjgfaaWWords
import Derived.Test.YtmpkopkibkjgfaaWLast
import Derived.Test.YtmpkopkibkjgfaaWMore
import Derived.Lib.Hide
import Derived.LaidEql
import Derived.Outline
import Derived.Test.YtmpkopkibkjgfaaAwake
import Derived.Test.YtmpkopkibkjgfaaReader3
namespace Go.Proofs.Ytmpkopkibkjgfaa.Hand
open Go Go.RowKit Go.Proofs.Ytmpkopkibkjgfaa.Plain Go.Proofs.Ytmpkopkibkjgfaa.PAll Go.Proofs.YtmpkopkibkjgfaaW.PrintWords Go.Proofs.YtmpkopkibkjgfaaW.PrintLast Go.Proofs.YtmpkopkibkjgfaaW.PrintMore
attribute [local go_sem] max2_int min2_int max_two min_two max_three min_three max_four min_four
set_option linter.unusedVariables false
set_option linter.unusedSimpArgs false
theorem nv_append (a b : List Bool) : nv (a ++ b) = nv a * 2 ^ b.length + nv b := by
  suffices h : ∀ n (b : List Bool), b.length = n → nv (a ++ b) = nv a * 2 ^ n + nv b from h _ b rfl
  intro n
  induction n with
  | zero =>
    intro b hb
    obtain rfl : b = [] := List.length_eq_zero_iff.1 hb
    simp [nv]
  | succ n ih =>
    intro b hb
    have hne : b ≠ [] := by intro e; subst e; simp at hb
    have e := (List.dropLast_concat_getLast hne).symm
    have hd : b.dropLast.length = n := by simp; omega
    have h1 := ih b.dropLast hd
    generalize b.dropLast = t at *
    generalize b.getLast hne = c at *
    subst e
    rw [← List.append_assoc, nv_snoc, nv_snoc, h1, Nat.pow_succ]
    rw [Nat.mul_add, Nat.mul_comm 2 (nv a * 2 ^ n), Nat.mul_assoc]
    omega
theorem parts_join (l : List Bool) (i j : Nat) (h : i + j ≤ l.length) (h64 : i + j ≤ 64) :
    ((nv (l.take (i + j)) : Nat) : Int) = Go.bits .or .u64 (IntKind.u64.wrap (((nv (l.take i) : Nat) : Int) * 2 ^ j)) ((nv ((l.drop i).take j) : Nat) : Int) := by
  have e : l.take (i + j) = l.take i ++ (l.drop i).take j := List.take_add
  have hl2 : ((l.drop i).take j).length = j := by simp; omega
  have hl1 : (l.take i).length = i := by simp; omega
  have h1 := nv_lt (l.take i)
  have h2 := nv_lt ((l.drop i).take j)
  have h3 := nv_lt (l.take (i + j))
  have hs := nv_append (l.take i) ((l.drop i).take j)
  rw [← e, hl2] at hs
  rw [hl1] at h1
  rw [hl2] at h2
  have h4 : (l.take (i + j)).length = i + j := by simp; omega
  rw [h4] at h3
  have h5 : 2 ^ (i + j) ≤ 2 ^ 64 := Nat.pow_le_pow_right (by decide) h64
  have h6 : 2 ^ j ≤ 2 ^ 64 := Nat.pow_le_pow_right (by decide) (by omega)
  have hz : (nv (l.take i) * 2 ^ j) % 2 ^ j = 0 := Nat.mul_mod_left _ _
  have ec : ((nv (l.take i) : Nat) : Int) * 2 ^ j = ((nv (l.take i) * 2 ^ j : Nat) : Int) := by simp
  rw [ec]
  generalize nv (l.take i) * 2 ^ j = y at *
  generalize nv ((l.drop i).take j) = z at *
  rw [u64w_id (Int.natCast_nonneg _) (by omega), or64 j (Int.natCast_nonneg _) (by exact_mod_cast h2) (by omega) (Int.natCast_nonneg _) (by exact_mod_cast hz) (by omega)]
  omega
set_option maxHeartbeats 4000000 in
set_option maxRecDepth 100000 in
theorem parts_calls (A : Option Addr) (c : Nat) (bs : List Int) (a b : Int) (w : World) (hr : Kd.C (Kd.int .u8) w A bs.length bs) (hc : bs.length ≤ c) (hlen : bs.length < 140737488355328) (hb : ∀ x ∈ bs, 0 ≤ x ∧ x < 256) :
    Calls Try.prog 4 #[.slice A bs.length c, .int .i64 a, .int .i64 b] w fun e w' => e = .returned (.bool true) ∧ Below w.heap.size w w' := by
  have HR := Lib.hid hr
  have HC := Lib.hid hc
  have HBY := Lib.hid hb
  have HL := Lib.hid hlen
  obtain ⟨i, hi, hi32⟩ : ∃ i : Nat, mn (mx a 0) 32 = (i : Int) ∧ i ≤ 32 := by
    have h1 : 0 ≤ mn (mx a 0) 32 ∧ mn (mx a 0) 32 ≤ 32 := by unfold mn mx; constructor <;> (repeat' split) <;> omega
    exact ⟨(mn (mx a 0) 32).toNat, by omega, by omega⟩
  obtain ⟨j, hj, hj32⟩ : ∃ j : Nat, mn (mx b 0) 32 = (j : Int) ∧ j ≤ 32 := by
    have h1 : 0 ≤ mn (mx b 0) 32 ∧ mn (mx b 0) 32 ≤ 32 := by unfold mn mx; constructor <;> (repeat' split) <;> omega
    exact ⟨(mn (mx b 0) 32).toNat, by omega, by omega⟩
  have HI := Lib.hid hi
  have HJ := Lib.hid hj
  clear hr hb hi hj
  by_cases h40 : 40 < bs.length
  · go_enter Try.func4, Try.ntmps4
    go_wp2_with fail
    refine (of_calls A _ c bs _ rfl HR.out HC.out HL.out).mono ?_
    rintro e w1 ⟨g1, rfl, hg1, hR1, hb1⟩
    have HB1 := Lib.hid hb1
    clear hR1 hb1
    go_wp2_with fail
    refine (of_calls A _ c bs _ rfl (Kd.C_below HR.out HB1.out) HC.out HL.out).mono ?_
    rintro e w2 ⟨g2, rfl, hg2, hR2, hb2⟩
    have HB2 := Lib.hid (HB1.out.trans (Below.mono hb2 HB1.out.size))
    clear hR2 hb2
    go_wp2_with fail
    refine (awake_calls _).mono ?_
    rintro e w3 ⟨rfl, hb3⟩
    have HB3 := Lib.hid (HB2.out.trans (Below.mono hb3 HB2.out.size))
    clear hb3
    go_wp2
    go_ret
    exact ⟨rfl, HB3.out⟩
  · obtain ⟨l, hl0⟩ : ∃ l, allOf bs = l := ⟨_, rfl⟩
    have hl8 : l.length = 8 * bs.length := by rw [← hl0, allOf_length]
    have hQ : (mn (mx ((i : Int) + (j : Int)) 0) 64).toNat = i + j := by unfold mn mx; (repeat' split) <;> omega
    have hQi : (mn (mx (i : Int) 0) 64).toNat = i := by unfold mn mx; (repeat' split) <;> omega
    have hQj : (mn (mx (j : Int) 0) 64).toNat = j := by unfold mn mx; (repeat' split) <;> omega
    have HQ := Lib.hid hQ
    have HQi := Lib.hid hQi
    have HQj := Lib.hid hQj
    have HL0 := Lib.hid hl0
    have HL8 := Lib.hid hl8
    have HS : Hid (bs.length ≤ 1000) := Lib.hid (by omega)
    clear hQ hQi hQj hl0 hl8
    by_cases hc1 : l.length < i
    · have HT1 : Hid (takeOf l (i + j) = (0, 2, 0)) := Lib.hid (by unfold takeOf; rw [if_pos (by omega)])
      have HT2 : Hid (takeOf l i = (0, 2, 0)) := Lib.hid (by unfold takeOf; rw [if_pos hc1])
      obtain ⟨zc, hzc⟩ : ∃ zc, takeOf (l.drop (0 + 0)) j = zc := ⟨_, rfl⟩
      obtain ⟨z, ge, cc⟩ := zc
      have HT3 := Lib.hid hzc
      have HLN : Hid (((l.drop (0 + 0)).length : Int) = 8 * (bs.length : Int)) := Lib.hid (by have := HL8.out; simp; omega)
      clear hzc hc1
      go_enter Try.func4, Try.ntmps4
      go_wp2_with fail
      refine (of_calls A _ c bs _ rfl HR.out HC.out HL.out).mono ?_
      rintro e w1 ⟨g1, rfl, hg1, hR1, hb1⟩
      have HB1 := Lib.hid hb1
      have HR1 := Lib.hid hR1
      clear hR1 hb1 hg1
      go_wp2_with fail
      refine (of_calls A _ c bs _ rfl (Kd.C_below HR.out HB1.out) HC.out HL.out).mono ?_
      rintro e w2 ⟨g2, rfl, hg2, hR2, hb2⟩
      have HNE : Hid (g2 ≠ g1) := Lib.hid (by have := HR1.out.lt; omega)
      have HB2 := Lib.hid (HB1.out.trans (Below.mono hb2 HB1.out.size))
      have HP2 := Lib.hid (HR1.out.later hb2)
      have HQ2 := Lib.hid (show IsRd w2 w.heap.size g2 bs ((0 : Nat) : Int) from ⟨Nat.le_trans HB1.out.size hg2, hR2.2⟩)
      have HP2 : Hid (IsRd w2 w.heap.size g1 bs ((0 : Nat) : Int)) := HP2
      clear hR2 hb2 hg2 HB1 HR1
      go_wp2_with fail
      refine (held2_calls a 0 32 _ HI.out _).mono ?_
      rintro e w3 ⟨rfl, rfl⟩
      go_wp2_with fail
      refine (held2_calls b 0 32 _ HJ.out _).mono ?_
      rintro e w3 ⟨rfl, rfl⟩
      go_wp2_with fail
      have hh := rd_take HP2.out HBY.out HS.out (Nat.zero_le _) ((i : Int) + (j : Int))
      rw [HQ.out, HL0.out, List.drop_zero, HT1.out] at hh
      refine hh.mono ?_
      clear hh
      rintro e w3 ⟨rfl, hp3, hb3, hk3⟩
      have HP3 := Lib.hid hp3
      have HB3 := Lib.hid (HB2.out.trans hb3)
      have HQ3 := Lib.hid (HQ2.out.kept HP2.out hk3 HNE.out)
      clear hp3 hb3 hk3 HP2 HB2 HQ2
      go_wp2_with fail
      have hh := rd_take HQ3.out HBY.out HS.out (Nat.zero_le _) (i : Int)
      rw [HQi.out, HL0.out, List.drop_zero, HT2.out] at hh
      refine hh.mono ?_
      clear hh
      rintro e w4 ⟨rfl, hq4, hb4, hk4⟩
      have HQ4 := Lib.hid hq4
      have HB4 := Lib.hid (HB3.out.trans hb4)
      have HP4 := Lib.hid (HP3.out.kept HQ3.out hk4 HNE.out.symm)
      clear hq4 hb4 hk4 HP3 HB3 HQ3
      go_wp2_with fail
      have hh := rd_take HQ4.out HBY.out HS.out (by omega) (j : Int)
      rw [HQj.out, HL0.out, HT3.out] at hh
      refine hh.mono ?_
      clear hh
      rintro e w5 ⟨rfl, hq5, hb5, hk5⟩
      have HQ5 := Lib.hid hq5
      have HB5 := Lib.hid (HB4.out.trans hb5)
      have HP5 := Lib.hid (HP4.out.kept HQ4.out hk5 HNE.out.symm)
      clear hq5 hb5 hk5 HP4 HB4 HQ4
      go_wp2_with fail
      have hh := rd_left HP5.out HS.out (by omega)
      rw [HL0.out, HLN.out] at hh
      refine hh.mono ?_
      clear hh
      rintro e w6 ⟨rfl, hp6, hb6, hk6⟩
      have HB6 := Lib.hid (HB5.out.trans hb6)
      clear hp6 hb6 hk6
      go_wp2_with fail
      refine (awake_calls _).mono ?_
      rintro e w7 ⟨rfl, hb7⟩
      have HB7 := Lib.hid (HB6.out.trans (Below.mono hb7 HB6.out.size))
      clear hb7
      go_wp2
      go_ret
      exact ⟨rfl, HB7.out⟩
    · by_cases hc2 : l.length < i + j
      · have HT1 : Hid (takeOf l (i + j) = (0, 2, 0)) := Lib.hid (by unfold takeOf; rw [if_pos hc2])
        have HT2 : Hid (takeOf l i = (nv (l.take i), 0, i)) := Lib.hid (by unfold takeOf; rw [if_neg hc1])
        have HT3 : Hid (takeOf (l.drop (0 + i)) j = (0, 2, 0)) := Lib.hid (by unfold takeOf; rw [if_pos (by simp; omega)])
        have HLN : Hid (((l.drop (0 + 0)).length : Int) = 8 * (bs.length : Int)) := Lib.hid (by have := HL8.out; simp; omega)
        have HI8 : Hid (0 + i ≤ 8 * bs.length) := Lib.hid (by have := HL8.out; omega)
        clear hc1 hc2
        go_enter Try.func4, Try.ntmps4
        go_wp2_with fail
        refine (of_calls A _ c bs _ rfl HR.out HC.out HL.out).mono ?_
        rintro e w1 ⟨g1, rfl, hg1, hR1, hb1⟩
        have HB1 := Lib.hid hb1
        have HR1 := Lib.hid hR1
        clear hR1 hb1 hg1
        go_wp2_with fail
        refine (of_calls A _ c bs _ rfl (Kd.C_below HR.out HB1.out) HC.out HL.out).mono ?_
        rintro e w2 ⟨g2, rfl, hg2, hR2, hb2⟩
        have HNE : Hid (g2 ≠ g1) := Lib.hid (by have := HR1.out.lt; omega)
        have HB2 := Lib.hid (HB1.out.trans (Below.mono hb2 HB1.out.size))
        have HP2 := Lib.hid (HR1.out.later hb2)
        have HQ2 := Lib.hid (show IsRd w2 w.heap.size g2 bs ((0 : Nat) : Int) from ⟨Nat.le_trans HB1.out.size hg2, hR2.2⟩)
        have HP2 : Hid (IsRd w2 w.heap.size g1 bs ((0 : Nat) : Int)) := HP2
        clear hR2 hb2 hg2 HB1 HR1
        go_wp2_with fail
        refine (held2_calls a 0 32 _ HI.out _).mono ?_
        rintro e w3 ⟨rfl, rfl⟩
        go_wp2_with fail
        refine (held2_calls b 0 32 _ HJ.out _).mono ?_
        rintro e w3 ⟨rfl, rfl⟩
        go_wp2_with fail
        have hh := rd_take HP2.out HBY.out HS.out (Nat.zero_le _) ((i : Int) + (j : Int))
        rw [HQ.out, HL0.out, List.drop_zero, HT1.out] at hh
        refine hh.mono ?_
        clear hh
        rintro e w3 ⟨rfl, hp3, hb3, hk3⟩
        have HP3 := Lib.hid hp3
        have HB3 := Lib.hid (HB2.out.trans hb3)
        have HQ3 := Lib.hid (HQ2.out.kept HP2.out hk3 HNE.out)
        clear hp3 hb3 hk3 HP2 HB2 HQ2
        go_wp2_with fail
        have hh := rd_take HQ3.out HBY.out HS.out (Nat.zero_le _) (i : Int)
        rw [HQi.out, HL0.out, List.drop_zero, HT2.out] at hh
        refine hh.mono ?_
        clear hh
        rintro e w4 ⟨rfl, hq4, hb4, hk4⟩
        have HQ4 := Lib.hid hq4
        have HB4 := Lib.hid (HB3.out.trans hb4)
        have HP4 := Lib.hid (HP3.out.kept HQ3.out hk4 HNE.out.symm)
        clear hq4 hb4 hk4 HP3 HB3 HQ3
        go_wp2_with fail
        have hh := rd_take HQ4.out HBY.out HS.out HI8.out (j : Int)
        rw [HQj.out, HL0.out, HT3.out] at hh
        refine hh.mono ?_
        clear hh
        rintro e w5 ⟨rfl, hq5, hb5, hk5⟩
        have HQ5 := Lib.hid hq5
        have HB5 := Lib.hid (HB4.out.trans hb5)
        have HP5 := Lib.hid (HP4.out.kept HQ4.out hk5 HNE.out.symm)
        clear hq5 hb5 hk5 HP4 HB4 HQ4
        go_wp2_with fail
        have hh := rd_left HP5.out HS.out (by omega)
        rw [HL0.out, HLN.out] at hh
        refine hh.mono ?_
        clear hh
        rintro e w6 ⟨rfl, hp6, hb6, hk6⟩
        have HB6 := Lib.hid (HB5.out.trans hb6)
        clear hp6 hb6 hk6
        go_wp2_with fail
        refine (awake_calls _).mono ?_
        rintro e w7 ⟨rfl, hb7⟩
        have HB7 := Lib.hid (HB6.out.trans (Below.mono hb7 HB6.out.size))
        clear hb7
        go_wp2
        go_ret
        exact ⟨rfl, HB7.out⟩
      · have HT1 : Hid (takeOf l (i + j) = (nv (l.take (i + j)), 0, i + j)) := Lib.hid (by unfold takeOf; rw [if_neg hc2])
        have HT2 : Hid (takeOf l i = (nv (l.take i), 0, i)) := Lib.hid (by unfold takeOf; rw [if_neg hc1])
        have HT3 : Hid (takeOf (l.drop (0 + i)) j = (nv ((l.drop i).take j), 0, j)) := Lib.hid (by unfold takeOf; rw [if_neg (by simp; omega), Nat.zero_add])
        have HI8 : Hid (0 + i ≤ 8 * bs.length) := Lib.hid (by have := HL8.out; omega)
        have HIJ : Hid (i + j ≤ 8 * bs.length) := Lib.hid (by have := HL8.out; omega)
        obtain ⟨M, hM⟩ : ∃ M, (l.drop (0 + (i + j))).length = M := ⟨_, rfl⟩
        have HM1 := Lib.hid hM
        have HM2 : Hid ((l.drop (0 + i + j)).length = M) := Lib.hid (by rw [← hM, Nat.zero_add, Nat.zero_add])
        have hjoin := parts_join l i j (by omega) (by omega)
        have hxyz : (((nv (l.take (i + j)) : Nat) : Int) == Go.bits .or .u64 (IntKind.u64.wrap (((nv (l.take i) : Nat) : Int) * 2 ^ j)) ((nv ((l.drop i).take j) : Nat) : Int)) = true := beq_iff_eq.2 hjoin
        clear hc1 hc2 hM hjoin
        go_enter Try.func4, Try.ntmps4
        go_wp2_with fail
        refine (of_calls A _ c bs _ rfl HR.out HC.out HL.out).mono ?_
        rintro e w1 ⟨g1, rfl, hg1, hR1, hb1⟩
        have HB1 := Lib.hid hb1
        have HR1 := Lib.hid hR1
        clear hR1 hb1 hg1
        go_wp2_with fail
        refine (of_calls A _ c bs _ rfl (Kd.C_below HR.out HB1.out) HC.out HL.out).mono ?_
        rintro e w2 ⟨g2, rfl, hg2, hR2, hb2⟩
        have HNE : Hid (g2 ≠ g1) := Lib.hid (by have := HR1.out.lt; omega)
        have HB2 := Lib.hid (HB1.out.trans (Below.mono hb2 HB1.out.size))
        have HP2 := Lib.hid (HR1.out.later hb2)
        have HQ2 := Lib.hid (show IsRd w2 w.heap.size g2 bs ((0 : Nat) : Int) from ⟨Nat.le_trans HB1.out.size hg2, hR2.2⟩)
        have HP2 : Hid (IsRd w2 w.heap.size g1 bs ((0 : Nat) : Int)) := HP2
        clear hR2 hb2 hg2 HB1 HR1
        go_wp2_with fail
        refine (held2_calls a 0 32 _ HI.out _).mono ?_
        rintro e w3 ⟨rfl, rfl⟩
        go_wp2_with fail
        refine (held2_calls b 0 32 _ HJ.out _).mono ?_
        rintro e w3 ⟨rfl, rfl⟩
        go_wp2_with fail
        have hh := rd_take HP2.out HBY.out HS.out (Nat.zero_le _) ((i : Int) + (j : Int))
        rw [HQ.out, HL0.out, List.drop_zero, HT1.out] at hh
        refine hh.mono ?_
        clear hh
        rintro e w3 ⟨rfl, hp3, hb3, hk3⟩
        have HP3 := Lib.hid hp3
        have HB3 := Lib.hid (HB2.out.trans hb3)
        have HQ3 := Lib.hid (HQ2.out.kept HP2.out hk3 HNE.out)
        clear hp3 hb3 hk3 HP2 HB2 HQ2
        go_wp2_with fail
        have hh := rd_take HQ3.out HBY.out HS.out (Nat.zero_le _) (i : Int)
        rw [HQi.out, HL0.out, List.drop_zero, HT2.out] at hh
        refine hh.mono ?_
        clear hh
        rintro e w4 ⟨rfl, hq4, hb4, hk4⟩
        have HQ4 := Lib.hid hq4
        have HB4 := Lib.hid (HB3.out.trans hb4)
        have HP4 := Lib.hid (HP3.out.kept HQ3.out hk4 HNE.out.symm)
        clear hq4 hb4 hk4 HP3 HB3 HQ3
        go_wp2_with fail
        have hh := rd_take HQ4.out HBY.out HS.out HI8.out (j : Int)
        rw [HQj.out, HL0.out, HT3.out] at hh
        refine hh.mono ?_
        clear hh
        rintro e w5 ⟨rfl, hq5, hb5, hk5⟩
        have HQ5 := Lib.hid hq5
        have HB5 := Lib.hid (HB4.out.trans hb5)
        have HP5 := Lib.hid (HP4.out.kept HQ4.out hk5 HNE.out.symm)
        clear hq5 hb5 hk5 HP4 HB4 HQ4
        generalize hx : ((nv (l.take (i + j)) : Nat) : Int) = x at hxyz ⊢
        generalize hy : ((nv (l.take i) : Nat) : Int) = y at hxyz ⊢
        generalize hz : ((nv ((l.drop i).take j) : Nat) : Int) = z at hxyz ⊢
        clear hx hy hz
        go_wp2_with fail
        have hh := rd_left HP5.out HS.out (by have := HIJ.out; omega)
        rw [HL0.out, HM1.out] at hh
        refine hh.mono ?_
        clear hh
        rintro e w6 ⟨rfl, hp6, hb6, hk6⟩
        have HB6 := Lib.hid (HB5.out.trans hb6)
        have HQ6 := Lib.hid (HQ5.out.kept HP5.out hk6 HNE.out)
        clear hp6 hb6 hk6
        go_wp2_with fail
        have hh := rd_left HQ6.out HS.out (by have := HIJ.out; omega)
        rw [HL0.out, HM2.out] at hh
        refine hh.mono ?_
        clear hh
        rintro e w7 ⟨rfl, hp7, hb7, hk7⟩
        have HB7 := Lib.hid (HB6.out.trans hb7)
        clear hp7 hb7 hk7
        go_wp2_with fail
        refine (awake_calls _).mono ?_
        rintro e w8 ⟨rfl, hb8⟩
        have HB8 := Lib.hid (HB7.out.trans (Below.mono hb8 HB7.out.size))
        clear hb8
        go_wp2
        go_ret
        exact ⟨rfl, HB8.out⟩
end Go.Proofs.Ytmpkopkibkjgfaa.Hand
