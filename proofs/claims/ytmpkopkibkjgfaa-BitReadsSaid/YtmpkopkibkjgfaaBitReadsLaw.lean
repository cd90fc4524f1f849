/- BitReads: walked. -/
import Derived.Test.YtmpkopkibkjgfaaProg
import Derived.Below
import Derived.Deep.Draws
import Derived.Deep.AppendLies
import Derived.Maps.AppendAt
import Derived.OwnWalk
import Derived.Laws.BytesArg
import Derived.Laws.MakeOwn
import Derived.Laws.OwnMore
import Derived.Deep.OwnRows
import Derived.Tactics
import Derived.Lib.ConvBytes
import Derived.Laws.Slices
import Derived.WalkKit
import Derived.KernelRfl
import Derived.RowKit3
import Derived.Deep.LoopGhost
import Derived.Deep.QuietTactic
import Derived.BigQuiet
import Derived.WideLaws
import Derived.Deep.DeepCutAuto
import Derived.Deep.CutBlock
import Derived.Deep.RegionHeld3
import Derived.Laws.Rows
import Derived.Lib.AppendStr
import Derived.ArgAppend
import Derived.Laws.IdiomCopy
import Derived.OrdersHeld
import Derived.Laws.BitsLemmas
import Derived.RowKit
import Derived.StillTailTactics
import Derived.Test.YtmpkopkibkjgfaaWWords
import Derived.Test.YtmpkopkibkjgfaaWLast
import Derived.Test.YtmpkopkibkjgfaaWMore
import Derived.Lib.Hide
import Derived.LaidEql
import Derived.Outline
import Derived.Test.YtmpkopkibkjgfaaAwake
import Derived.Test.YtmpkopkibkjgfaaReader3
namespace Go.Proofs.Ytmpkopkibkjgfaa.Hand
open Go Go.RowKit Go.Proofs.Ytmpkopkibkjgfaa.Plain Go.Proofs.Ytmpkopkibkjgfaa.PAll Go.Proofs.YtmpkopkibkjgfaaW.PrintWords Go.Proofs.YtmpkopkibkjgfaaW.PrintLast Go.Proofs.YtmpkopkibkjgfaaW.PrintMore
attribute [local go_sem] max2_int min2_int max_two min_two max_three min_three max_four min_four
set_option linter.unusedVariables false
set_option linter.unusedSimpArgs false
/-- A part: (Ones, N, M). -/
abbrev Part := Bool × Int × Int
def kOp : Kd Part := Kd.pair Kd.bool (Kd.pair (Kd.int .u64) (Kd.int .i64))
def zOp : Part := (false, 0, 0)
def rdP (xs : List Part) (i : Int) : Part := xs.getD i.toNat zOp
theorem kOp_open {w : World} {x : Part} {cs : List Value} (h : kOp.K w x cs) : cs = [.bool x.1, .int .u64 x.2.1, .int .i64 x.2.2] := by
  obtain ⟨_, _, rfl, rfl, ⟨_, _, rfl, rfl, rfl⟩⟩ := h
  rfl
theorem at_op {w : World} {A : Option Addr} {n : Nat} {xs : List Part} (h : Kd.C kOp w A n xs) (i : Int) (h0 : 0 ≤ i) (h1 : i < n) : ∃ ad, A = some ad ∧ w.cell? (ad.add (i.toNat * 3)) = some (.bool (rdP xs i).1) ∧ w.cell? ⟨(ad.add (i.toNat * 3)).block, (ad.add (i.toNat * 3)).off + 1, none⟩ = some (.int .u64 (rdP xs i).2.1) ∧ w.cell? ⟨(ad.add (i.toNat * 3)).block, (ad.add (i.toNat * 3)).off + 2, none⟩ = some (.int .i64 (rdP xs i).2.2) := by
  obtain ⟨ad, c, e, _, hK, hc0⟩ := Kd.C_get h zOp i h0 h1
  have hc : ∀ j u, c[j]? = some u → w.cell? (ad.add (i.toNat * 3 + j)) = some u := hc0
  obtain rfl := kOp_open hK
  exact ⟨ad, e, hc 0 _ rfl, by rw [← add_field _ _ 1 (by omega)]; exact hc 1 _ rfl, by rw [← add_field _ _ 2 (by omega)]; exact hc 2 _ rfl⟩
theorem rdP_mem {xs : List Part} {i : Int} (h0 : 0 ≤ i) (h1 : i < (xs.length : Int)) : rdP xs i ∈ xs := by
  unfold rdP
  rw [List.getD_eq_getElem?_getD, List.getElem?_eq_getElem (by omega)]
  exact List.getElem_mem _
theorem drop_drop' (l : List Bool) (p q : Nat) : (l.drop p).drop q = l.drop (p + q) := by rw [List.drop_drop]
set_option maxHeartbeats 8000000 in
set_option maxRecDepth 100000 in
theorem reads_calls (A : Option Addr) (c : Nat) (bs : List Int) (A1 : Option Addr) (c1 : Nat) (xs : List Part) (w : World) (hr : Kd.C (Kd.int .u8) w A bs.length bs) (hc : bs.length ≤ c) (hlen : bs.length < 140737488355328) (hb : ∀ x ∈ bs, 0 ≤ x ∧ x < 256)
    (hr1 : Kd.C kOp w A1 xs.length xs) (hm : xs.length ≤ 9223372036854775807) (hwf : ∀ x ∈ xs, x.2.2 ≤ 9223372036854775807) :
    Calls Try.prog 5 #[.slice A bs.length c, .slice A1 xs.length c1] w fun e w' => e = .returned (.bool true) ∧ Below w.heap.size w w' := by
  have HR := Lib.hid hr
  have HC := Lib.hid hc
  have HBY := Lib.hid hb
  have HL := Lib.hid hlen
  have HR1 := Lib.hid hr1
  have HWF := Lib.hid hwf
  clear hr hc hb hlen hr1 hwf
  by_cases h60 : 60 < bs.length
  · go_enter Try.func5, Try.ntmps5
    go_wp2_with fail
    refine (of_calls A _ c bs _ rfl HR.out HC.out HL.out).mono ?_
    rintro e w1 ⟨g, rfl, hg1, hp1, hb1⟩
    have HB1 := Lib.hid hb1
    clear hp1 hb1 hg1
    go_wp2_with fail
    refine (awake_calls _).mono ?_
    rintro e w3 ⟨rfl, hb3⟩
    have HB3 := Lib.hid (HB1.out.trans (Below.mono hb3 HB1.out.size))
    clear hb3
    go_wp2
    go_ret
    exact ⟨rfl, HB3.out⟩
  · obtain ⟨l, hl0⟩ : ∃ l, allOf bs = l := ⟨_, rfl⟩
    have hl8 : l.length = 8 * bs.length := by rw [← hl0, allOf_length]
    have HL0 := Lib.hid hl0
    have HL8 := Lib.hid hl8
    have HS : Hid (bs.length ≤ 1000) := Lib.hid (by omega)
    have HALL := Lib.hid (show mastheadref11_All.f (bs.length + 30) bs = some (txt l) by rw [all_tells bs HBY.out (by omega) _ (by omega), hl0])
    clear hl0 hl8
    go_enter Try.func5, Try.ntmps5
    go_wp2_with fail
    refine (of_calls A _ c bs _ rfl HR.out HC.out HL.out).mono ?_
    rintro e w1 ⟨g, rfl, hg1, hp1, hb1⟩
    have HG := Lib.hid hg1
    have HB1 := Lib.hid hb1
    have HP1 := Lib.hid (show IsRd w1 w.heap.size g bs ((0 : Nat) : Int) from hp1)
    clear hp1 hb1 hg1
    go_wp2_with fail
    refine (mastheadref11_All.calls _ A c bs _ _ (Kd.C_below HR.out HB1.out) HC.out HALL.out).mono ?_
    rintro e w2 ⟨rfl, ⟨⟨nd, rfl⟩⟩⟩
    have HP2 := Lib.hid (HP1.out.drewN nd)
    have HB2 := Lib.hid (pw_below_drewN HB1.out nd)
    clear HP1 HB1
    go_wp2_with fail
    go_loopw [6, 32] (fun v i wr => ∃ (k : Int), 0 ≤ k ∧ k ≤ 30 ∧ k ≤ (xs.length : Int) ∧ i = .int .i64 k ∧ ∃ s, v = .string s ∧ Hid (∃ p : Nat, p ≤ 8 * bs.length ∧ s = txt (l.drop p) ∧ IsRd wr w.heap.size g bs (p : Int) ∧ Below w.heap.size w wr)) (fun _ i _ => (30 - intOf i).toNat)
    case atStart => exact ⟨0, by omega, by omega, by omega, rfl, _, rfl, Lib.hid ⟨0, by omega, rfl, HP2.out, HB2.out⟩⟩
    case round =>
      obtain ⟨k, hk0, hk30, hkx, rfl, s, rfl, H⟩ := hrel
      obtain ⟨p, hp, hs, hpr, hbr⟩ := H.out
      have HPB := Lib.hid hp
      have HS0 := Lib.hid hs
      have HPR := Lib.hid hpr
      have HBR := Lib.hid hbr
      clear hp hs hpr hbr H HP2 HB2
      by_cases hlt : k < (xs.length : Int)
      · obtain ⟨ad, rfl, c0, c2, c3⟩ := at_op (Kd.C_below HR1.out HBR.out) k hk0 hlt
        obtain ⟨⟨b, n, m⟩, hx⟩ : ∃ x, rdP xs k = x := ⟨_, rfl⟩
        have hmm := HWF.out _ (rdP_mem hk0 hlt)
        rw [hx] at c0 c2 c3 hmm
        simp only at c0 c2 c3 hmm
        have HMM := Lib.hid hmm
        clear hx hmm
        by_cases h29 : 29 < k
        · go_wp2_with fail
          refine (awake_calls _).mono ?_
          rintro e w3 ⟨rfl, hb3⟩
          have HB3 := Lib.hid ((below_alloc HBR.out (.cells #[.bool b, .int .u64 n, .int .i64 m] 27)).trans (Below.mono hb3 (below_alloc HBR.out (.cells #[.bool b, .int .u64 n, .int .i64 m] 27)).size))
          clear hb3
          go_wp2
          go_ret
          exact ⟨rfl, HB3.out⟩
        · have HPR1 := Lib.hid (HPR.out.alloc (.cells #[.bool b, .int .u64 n, .int .i64 m] 27))
          have HBR1 := Lib.hid (below_alloc HBR.out (.cells #[.bool b, .int .u64 n, .int .i64 m] 27))
          have hbox : (wr.alloc (.cells #[.bool b, .int .u64 n, .int .i64 m] 27)).heap[wr.heap.size]? = some (.cells #[.bool b, .int .u64 n, .int .i64 m] 27 (0, 0)) := by simpa using heap_alloc_new wr _
          have HBOX := Lib.hid hbox
          have HNE : Hid (wr.heap.size ≠ g) := Lib.hid (by have := HPR.out.lt; omega)
          have HLT : Hid (wr.heap.size < (wr.alloc (.cells #[.bool b, .int .u64 n, .int .i64 m] 27)).heap.size) := Lib.hid (by simp)
          clear hbox HPR HBR
          cases b with
          | true =>
            obtain ⟨m2, hm2⟩ : ∃ m2 : Int, mx m 0 = m2 := ⟨_, rfl⟩
            have em2 : (if m < 0 then 0 else m) = m2 := hm2
            have h20 : 0 ≤ m2 := by rw [← em2]; split <;> omega
            have HM2 := Lib.hid hm2
            obtain ⟨⟨rv, re, rc⟩, hrun⟩ : ∃ x, runOf (l.drop p) m2.toNat = x := ⟨_, rfl⟩
            have HRUN := Lib.hid hrun
            have HRC := Lib.hid (show rc ≤ l.length - p by have := runOf_le (l.drop p) m2.toNat; rw [hrun] at this; simpa using this)
            have HREF := Lib.hid (show mastheadref11_Run.f (8 * bs.length + 10) s m2 = some (txt ((l.drop p).drop rc), (rv : Int), re) by
              have h1 := ref_run (l.drop p) (by have := HL8.out; simp; omega) m2.toNat (8 * bs.length + 10) (by have := HL8.out; simp; omega)
              rw [hrun, Int.toNat_of_nonneg h20] at h1
              rw [HS0.out]
              exact h1)
            have HTXT := Lib.hid (show txt ((l.drop p).drop rc) = txt (l.drop (p + rc)) by rw [drop_drop'])
            have HPB2 : Hid (p + rc ≤ 8 * bs.length) := Lib.hid (by have := HRC.out; have := HL8.out; have := HPB.out; simp at this ⊢; omega)
            clear hrun hm2
            go_wp2_with fail
            have hh := rd_run HPR1.out HBY.out HS.out HPB.out m HMM.out
            rw [HL0.out, HM2.out, HRUN.out] at hh
            refine hh.mono ?_
            clear hh
            rintro e w3 ⟨rfl, hp3, hb3, hk3⟩
            have HP3 := Lib.hid hp3
            have HB3 := Lib.hid (HBR1.out.trans hb3)
            have hbx := (hk3.2 _ HLT.out HNE.out (by simp)).trans HBOX.out
            have hcl1 : w3.cell? ⟨wr.heap.size, 1, none⟩ = some (.int .u64 n) := (blk_cell hbx 1).trans rfl
            have hcl2 : w3.cell? ⟨wr.heap.size, 2, none⟩ = some (.int .i64 m) := (blk_cell hbx 2).trans rfl
            clear hp3 hb3 hk3 hbx HPR1 HBR1
            go_wp2_with fail
            refine (mastheadref11_Run.calls _ s m2 _ _ _ _ HREF.out).mono ?_
            rintro e w4 ⟨rfl, ⟨⟨nd, rfl⟩⟩⟩
            have HP4 := Lib.hid (HP3.out.drewN nd)
            have HB4 := Lib.hid (pw_below_drewN HB3.out nd)
            clear HP3 HB3 hcl1 hcl2
            generalize w3.drewN nd = w4 at HP4 HB4 ⊢
            rw [HTXT.out]
            obtain ⟨S, hS⟩ : ∃ S, txt (l.drop (p + rc)) = S := ⟨_, rfl⟩
            have hSz : S.size = (l.drop (p + rc)).length := by rw [← hS, txt_size]
            rw [hS]
            have HSS := Lib.hid hS
            have HSZ := Lib.hid (show (((l.drop (p + rc)).length : Nat) : Int) = (S.size : Int) by rw [hSz])
            clear hS
            by_cases h8 : (l.drop (p + rc)).length < 8
            · have hs8 : decide ((S.size : Int) < 8) = true := decide_eq_true (by rw [hSz]; omega)
              obtain ⟨z, hz⟩ : ∃ z, nv (l.drop (p + rc)) = z := ⟨_, rfl⟩
              have HNUM := Lib.hid (show mastheadref11_Number.f 100 S = some (z : Int) by
                have h1 := number_tells (l.drop (p + rc)) (by omega) 100 (by omega)
                rw [hz, HSS.out] at h1
                exact h1)
              have HCL := Lib.hid (show cleanOf (l.drop (p + rc)) = decide (z = 0) by unfold cleanOf; rw [decide_eq_true h8, hz, Bool.true_and])
              have hzb : ((z : Int) == 0) = decide (z = 0) := by
                by_cases h0 : z = 0
                · rw [decide_eq_true h0, h0]; rfl
                · rw [decide_eq_false h0, beq_eq_false_iff_ne]; omega
              generalize hbz : decide (z = 0) = bz at hzb HCL
              clear hbz h8 hSz hz
              go_wp2_with fail
              refine (mastheadref11_Number.calls _ S _ _ HNUM.out).mono ?_
              rintro e w5 ⟨rfl, ⟨⟨nd2, rfl⟩⟩⟩
              have HP5 := Lib.hid (HP4.out.drewN nd2)
              have HB5 := Lib.hid (pw_below_drewN HB4.out nd2)
              clear HP4 HB4
              go_wp2_with fail
              have hh := rd_left HP5.out HS.out HPB2.out
              rw [HL0.out, HSZ.out] at hh
              refine hh.mono ?_
              clear hh
              rintro e w6 ⟨rfl, hp6, hb6, hk6⟩
              have HP6 := Lib.hid hp6
              have HB6 := Lib.hid (HB5.out.trans hb6)
              clear hp6 hb6 hk6 HP5 HB5
              go_wp2_with fail
              have hh := rd_clean HP6.out HBY.out HS.out HPB2.out
              rw [HL0.out, HCL.out] at hh
              refine hh.mono ?_
              clear hh
              rintro e w7 ⟨rfl, hp7, hb7, hk7⟩
              have HP7 := Lib.hid hp7
              have HB7 := Lib.hid (HB6.out.trans hb7)
              clear hp7 hb7 hk7 HP6 HB6
              go_wp2
              go_roundw
              case rel => exact ⟨k + 1, by omega, by omega, by omega, rfl, _, rfl, Lib.hid ⟨p + rc, HPB2.out, HSS.out.symm, HP7.out, HB7.out⟩⟩
              case measure => simp [intOf]; omega
            · have hs8 : decide ((S.size : Int) < 8) = false := decide_eq_false (by rw [hSz]; omega)
              have HCL := Lib.hid (show cleanOf (l.drop (p + rc)) = false by unfold cleanOf; rw [decide_eq_false h8, Bool.false_and])
              have HP5 := HP4
              have HB5 := HB4
              clear h8 hSz HP4 HB4
              go_wp2_with fail
              have hh := rd_left HP5.out HS.out HPB2.out
              rw [HL0.out, HSZ.out] at hh
              refine hh.mono ?_
              clear hh
              rintro e w6 ⟨rfl, hp6, hb6, hk6⟩
              have HP6 := Lib.hid hp6
              have HB6 := Lib.hid (HB5.out.trans hb6)
              clear hp6 hb6 hk6 HP5 HB5
              go_wp2_with fail
              have hh := rd_clean HP6.out HBY.out HS.out HPB2.out
              rw [HL0.out, HCL.out] at hh
              refine hh.mono ?_
              clear hh
              rintro e w7 ⟨rfl, hp7, hb7, hk7⟩
              have HP7 := Lib.hid hp7
              have HB7 := Lib.hid (HB6.out.trans hb7)
              clear hp7 hb7 hk7 HP6 HB6
              go_wp2
              go_roundw
              case rel => exact ⟨k + 1, by omega, by omega, by omega, rfl, _, rfl, Lib.hid ⟨p + rc, HPB2.out, HSS.out.symm, HP7.out, HB7.out⟩⟩
              case measure => simp [intOf]; omega
          | false =>
            obtain ⟨q2, hq2⟩ : ∃ q2 : Int, mn (mx m 0) 64 = q2 := ⟨_, rfl⟩
            have h20 : 0 ≤ q2 := by rw [← hq2]; unfold mn mx; repeat' split <;> omega
            have h264 : q2 ≤ 64 := by rw [← hq2]; unfold mn; split <;> omega
            have HM2 := Lib.hid hq2
            obtain ⟨⟨rv, re, rc⟩, hrun⟩ : ∃ x, takeOf (l.drop p) q2.toNat = x := ⟨_, rfl⟩
            have HRUN := Lib.hid hrun
            have HRC := Lib.hid (show rc ≤ l.length - p by have := takeOf_le (l.drop p) q2.toNat; rw [hrun] at this; simpa using this)
            have HREF := Lib.hid (show mastheadref11_Take.f 100 s q2 = some (txt ((l.drop p).drop rc), (rv : Int), re) by
              have h1 := ref_take (l.drop p) (by have := HL8.out; simp; omega) q2.toNat (by omega) 100 (by omega)
              rw [hrun, Int.toNat_of_nonneg h20] at h1
              rw [HS0.out]
              exact h1)
            have HTXT := Lib.hid (show txt ((l.drop p).drop rc) = txt (l.drop (p + rc)) by rw [drop_drop'])
            have HPB2 : Hid (p + rc ≤ 8 * bs.length) := Lib.hid (by have := HRC.out; have := HL8.out; have := HPB.out; simp at this ⊢; omega)
            clear hrun hq2
            go_wp2_with fail
            have hh := rd_take HPR1.out HBY.out HS.out HPB.out m
            rw [HL0.out, HM2.out, HRUN.out] at hh
            refine hh.mono ?_
            clear hh
            rintro e w3 ⟨rfl, hp3, hb3, hk3⟩
            have HP3 := Lib.hid hp3
            have HB3 := Lib.hid (HBR1.out.trans hb3)
            have hbx := (hk3.2 _ HLT.out HNE.out (by simp)).trans HBOX.out
            have hcl1 : w3.cell? ⟨wr.heap.size, 1, none⟩ = some (.int .u64 n) := (blk_cell hbx 1).trans rfl
            have hcl2 : w3.cell? ⟨wr.heap.size, 2, none⟩ = some (.int .i64 m) := (blk_cell hbx 2).trans rfl
            clear hp3 hb3 hk3 hbx HPR1 HBR1
            go_wp2_with fail
            refine (held2_calls m 0 64 _ HM2.out _).mono ?_
            rintro e w4 ⟨rfl, rfl⟩
            go_wp2_with fail
            refine (mastheadref11_Take.calls _ s q2 _ _ _ _ HREF.out).mono ?_
            rintro e w4 ⟨rfl, ⟨⟨nd, rfl⟩⟩⟩
            have HP4 := Lib.hid (HP3.out.drewN nd)
            have HB4 := Lib.hid (pw_below_drewN HB3.out nd)
            clear HP3 HB3 hcl1 hcl2
            generalize w3.drewN nd = w4 at HP4 HB4 ⊢
            rw [HTXT.out]
            obtain ⟨S, hS⟩ : ∃ S, txt (l.drop (p + rc)) = S := ⟨_, rfl⟩
            have hSz : S.size = (l.drop (p + rc)).length := by rw [← hS, txt_size]
            rw [hS]
            have HSS := Lib.hid hS
            have HSZ := Lib.hid (show (((l.drop (p + rc)).length : Nat) : Int) = (S.size : Int) by rw [hSz])
            clear hS
            by_cases h8 : (l.drop (p + rc)).length < 8
            · have hs8 : decide ((S.size : Int) < 8) = true := decide_eq_true (by rw [hSz]; omega)
              obtain ⟨z, hz⟩ : ∃ z, nv (l.drop (p + rc)) = z := ⟨_, rfl⟩
              have HNUM := Lib.hid (show mastheadref11_Number.f 100 S = some (z : Int) by
                have h1 := number_tells (l.drop (p + rc)) (by omega) 100 (by omega)
                rw [hz, HSS.out] at h1
                exact h1)
              have HCL := Lib.hid (show cleanOf (l.drop (p + rc)) = decide (z = 0) by unfold cleanOf; rw [decide_eq_true h8, hz, Bool.true_and])
              have hzb : ((z : Int) == 0) = decide (z = 0) := by
                by_cases h0 : z = 0
                · rw [decide_eq_true h0, h0]; rfl
                · rw [decide_eq_false h0, beq_eq_false_iff_ne]; omega
              generalize hbz : decide (z = 0) = bz at hzb HCL
              clear hbz h8 hSz hz
              go_wp2_with fail
              refine (mastheadref11_Number.calls _ S _ _ HNUM.out).mono ?_
              rintro e w5 ⟨rfl, ⟨⟨nd2, rfl⟩⟩⟩
              have HP5 := Lib.hid (HP4.out.drewN nd2)
              have HB5 := Lib.hid (pw_below_drewN HB4.out nd2)
              clear HP4 HB4
              go_wp2_with fail
              have hh := rd_left HP5.out HS.out HPB2.out
              rw [HL0.out, HSZ.out] at hh
              refine hh.mono ?_
              clear hh
              rintro e w6 ⟨rfl, hp6, hb6, hk6⟩
              have HP6 := Lib.hid hp6
              have HB6 := Lib.hid (HB5.out.trans hb6)
              clear hp6 hb6 hk6 HP5 HB5
              go_wp2_with fail
              have hh := rd_clean HP6.out HBY.out HS.out HPB2.out
              rw [HL0.out, HCL.out] at hh
              refine hh.mono ?_
              clear hh
              rintro e w7 ⟨rfl, hp7, hb7, hk7⟩
              have HP7 := Lib.hid hp7
              have HB7 := Lib.hid (HB6.out.trans hb7)
              clear hp7 hb7 hk7 HP6 HB6
              go_wp2
              go_roundw
              case rel => exact ⟨k + 1, by omega, by omega, by omega, rfl, _, rfl, Lib.hid ⟨p + rc, HPB2.out, HSS.out.symm, HP7.out, HB7.out⟩⟩
              case measure => simp [intOf]; omega
            · have hs8 : decide ((S.size : Int) < 8) = false := decide_eq_false (by rw [hSz]; omega)
              have HCL := Lib.hid (show cleanOf (l.drop (p + rc)) = false by unfold cleanOf; rw [decide_eq_false h8, Bool.false_and])
              have HP5 := HP4
              have HB5 := HB4
              clear h8 hSz HP4 HB4
              go_wp2_with fail
              have hh := rd_left HP5.out HS.out HPB2.out
              rw [HL0.out, HSZ.out] at hh
              refine hh.mono ?_
              clear hh
              rintro e w6 ⟨rfl, hp6, hb6, hk6⟩
              have HP6 := Lib.hid hp6
              have HB6 := Lib.hid (HB5.out.trans hb6)
              clear hp6 hb6 hk6 HP5 HB5
              go_wp2_with fail
              have hh := rd_clean HP6.out HBY.out HS.out HPB2.out
              rw [HL0.out, HCL.out] at hh
              refine hh.mono ?_
              clear hh
              rintro e w7 ⟨rfl, hp7, hb7, hk7⟩
              have HP7 := Lib.hid hp7
              have HB7 := Lib.hid (HB6.out.trans hb7)
              clear hp7 hb7 hk7 HP6 HB6
              go_wp2
              go_roundw
              case rel => exact ⟨k + 1, by omega, by omega, by omega, rfl, _, rfl, Lib.hid ⟨p + rc, HPB2.out, HSS.out.symm, HP7.out, HB7.out⟩⟩
              case measure => simp [intOf]; omega
      · go_wp2_with fail
        refine (awake_calls _).mono ?_
        rintro e w3 ⟨rfl, hb3⟩
        have HB3 := Lib.hid (HBR.out.trans (Below.mono hb3 HBR.out.size))
        clear hb3
        go_wp2
        go_ret
        exact ⟨rfl, HB3.out⟩
end Go.Proofs.Ytmpkopkibkjgfaa.Hand
