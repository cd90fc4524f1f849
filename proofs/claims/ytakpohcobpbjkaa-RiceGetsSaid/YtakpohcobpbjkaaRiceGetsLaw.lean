/- RiceGets: walked. -/
import Derived.Test.YtakpohcobpbjkaaProg
import Derived.Below
import Derived.Deep.Draws
import Derived.Deep.AppendLies
import Derived.Maps.AppendAt
import Derived.OwnWalk
import Derived.Laws.BytesArg
import Derived.Laws.MakeOwn
import Derived.Laws.OwnMore
import Derived.Deep.OwnRows
import Derived.Tactics
import Derived.Lib.ConvBytes
import Derived.Laws.Slices
import Derived.WalkKit
import Derived.KernelRfl
import Derived.RowKit3
import Derived.Deep.LoopGhost
import Derived.Deep.QuietTactic
import Derived.BigQuiet
import Derived.WideLaws
import Derived.Deep.DeepCutAuto
import Derived.Deep.CutBlock
import Derived.Deep.RegionHeld3
import Derived.Laws.Rows
import Derived.Lib.AppendStr
import Derived.ArgAppend
import Derived.Laws.IdiomCopy
import Derived.OrdersHeld
import Derived.Laws.BitsLemmas
import Derived.RowKit
import Derived.StillTailTactics
import Derived.Test.YtakpohcobpbjkaaWWords
import Derived.Test.YtakpohcobpbjkaaWLast
import Derived.Test.YtakpohcobpbjkaaWMore
import Derived.Lib.Hide
import Derived.LaidEql
import Derived.Outline
import Derived.Test.YtakpohcobpbjkaaGetRef
namespace Go.Proofs.Ytakpohcobpbjkaa.Hand
open Go Go.RowKit Go.Proofs.Ytakpohcobpbjkaa.Plain Go.Proofs.Ytakpohcobpbjkaa.PAll Go.Proofs.YtakpohcobpbjkaaW.PrintWords Go.Proofs.YtakpohcobpbjkaaW.PrintLast Go.Proofs.YtakpohcobpbjkaaW.PrintMore
attribute [local go_sem] max2_int min2_int max_two min_two max_three min_three max_four min_four
set_option linter.unusedVariables false
set_option linter.unusedSimpArgs false
theorem at_int {K : IntKind} {w : World} {A : Option Addr} {n : Nat} {xs : List Int} (h : Kd.C (Kd.int K) w A n xs) (i : Int) (h0 : 0 ≤ i) (h1 : i < n) : ∃ ad, A = some ad ∧ w.cell? (ad.add i.toNat) = some (.int K (rd xs i)) := by
  obtain ⟨ad, c, e, _, hK, hc0⟩ := Kd.C_get h 0 i h0 h1
  have hc : ∀ j u, c[j]? = some u → w.cell? (ad.add (i.toNat * 1 + j)) = some u := hc0
  have he : c = [.int K (rd xs i)] := hK
  subst he
  have := hc 0 _ rfl
  rw [Nat.mul_one, Nat.add_zero] at this
  exact ⟨ad, e, this⟩
theorem rd_mem' {xs : List Int} {i : Int} (h0 : 0 ≤ i) (h1 : i < (xs.length : Int)) : rd xs i ∈ xs := by
  unfold rd
  rw [List.getD_eq_getElem?_getD, List.getElem?_eq_getElem (by omega)]
  exact List.getElem_mem _
theorem drop_drop' (l : List Bool) (p q : Nat) : (l.drop p).drop q = l.drop (p + q) := by rw [List.drop_drop]
set_option maxHeartbeats 8000000 in
set_option maxRecDepth 100000 in
theorem gets_calls (A : Option Addr) (c : Nat) (bs : List Int) (p : Int) (A1 : Option Addr) (c1 : Nat) (xs : List Int) (w : World) (hr : Kd.C (Kd.int .u8) w A bs.length bs) (hc : bs.length ≤ c) (hlen : bs.length < 140737488355328) (hb : ∀ x ∈ bs, 0 ≤ x ∧ x < 256)
    (hr1 : Kd.C (Kd.int .i64) w A1 xs.length xs) (hm : xs.length ≤ 9223372036854775807) :
    Calls Try.prog 6 #[.slice A bs.length c, .int .i64 p, .slice A1 xs.length c1] w fun e w' => e = .returned (.bool true) ∧ Below w.heap.size w w' := by
  have HR := Lib.hid hr
  have HC := Lib.hid hc
  have HBY := Lib.hid hb
  have HL := Lib.hid hlen
  have HR1 := Lib.hid hr1
  clear hr hc hb hlen hr1
  by_cases h60 : 40 < bs.length
  · go_enter Try.func6, Try.ntmps6
    go_wp2_with fail
    refine (of_calls A _ c bs _ rfl HR.out HC.out HL.out).mono ?_
    rintro e w1 ⟨g, rfl, hg1, hp1, hb1⟩
    have HB1 := Lib.hid hb1
    clear hp1 hb1 hg1
    go_wp2_with fail
    refine (awake_calls _).mono ?_
    rintro e w3 ⟨rfl, hb3⟩
    have HB3 := Lib.hid (HB1.out.trans (Below.mono hb3 HB1.out.size))
    clear hb3
    go_wp2
    go_ret
    exact ⟨rfl, HB3.out⟩
  · obtain ⟨l, hl0⟩ : ∃ l, allOf bs = l := ⟨_, rfl⟩
    have hl8 : l.length = 8 * bs.length := by rw [← hl0, allOf_length]
    have HL0 := Lib.hid hl0
    have HL8 := Lib.hid hl8
    have HL40 := Lib.hid (show bs.length ≤ 40 by omega)
    have HS : Hid (bs.length ≤ 1000) := Lib.hid (by omega)
    have HALL := Lib.hid (show mastheadref11_All.f (bs.length + 30) bs = some (txt l) by rw [all_tells bs HBY.out (by omega) _ (by omega), hl0])
    clear hl0 hl8
    go_enter Try.func6, Try.ntmps6
    go_wp2_with fail
    refine (of_calls A _ c bs _ rfl HR.out HC.out HL.out).mono ?_
    rintro e w1 ⟨g, rfl, hg1, hp1, hb1⟩
    have HG := Lib.hid hg1
    have HB1 := Lib.hid hb1
    have HP1 := Lib.hid (show IsRd w1 w.heap.size g bs ((0 : Nat) : Int) from hp1)
    clear hp1 hb1 hg1
    go_wp2_with fail
    refine (mastheadref11_All.calls _ A c bs _ _ (Kd.C_below HR.out HB1.out) HC.out HALL.out).mono ?_
    rintro e w2 ⟨rfl, ⟨⟨nd, rfl⟩⟩⟩
    have HP2 := Lib.hid (HP1.out.drewN nd)
    have HB2 := Lib.hid (pw_below_drewN HB1.out nd)
    clear HP1 HB1
    go_wp2_with fail
    go_loopw [8, 28] (fun v i wr => ∃ (k : Int), 0 ≤ k ∧ k ≤ 20 ∧ k ≤ (xs.length : Int) ∧ i = .int .i64 k ∧ ∃ s, v = .string s ∧ Hid (∃ p0 : Nat, p0 ≤ 8 * bs.length ∧ s = txt (l.drop p0) ∧ IsRd wr w.heap.size g bs (p0 : Int) ∧ Below w.heap.size w wr)) (fun _ i _ => (20 - intOf i).toNat)
    case atStart => exact ⟨0, by omega, by omega, by omega, rfl, _, rfl, Lib.hid ⟨0, by omega, rfl, HP2.out, HB2.out⟩⟩
    case round =>
      obtain ⟨k, hk0, hk20, hkx, rfl, s, rfl, H⟩ := hrel
      obtain ⟨p0, hp, hs, hpr, hbr⟩ := H.out
      have HPB := Lib.hid hp
      have HS0 := Lib.hid hs
      have HPR := Lib.hid hpr
      have HBR := Lib.hid hbr
      clear hp hs hpr hbr H HP2 HB2
      by_cases hlt : k < (xs.length : Int)
      · obtain ⟨ad, rfl, c0⟩ := at_int (Kd.C_below HR1.out HBR.out) k hk0 hlt
        obtain ⟨m, hx⟩ : ∃ x, rd xs k = x := ⟨_, rfl⟩
        rw [hx] at c0
        clear hx
        by_cases h29 : 19 < k
        · go_wp2_with fail
          refine (awake_calls _).mono ?_
          rintro e w3 ⟨rfl, hb3⟩
          have HB3 := Lib.hid (HBR.out.trans (Below.mono hb3 HBR.out.size))
          clear hb3
          go_wp2
          go_ret
          exact ⟨rfl, HB3.out⟩
        · obtain ⟨⟨rv, re, rc⟩, hrun⟩ : ∃ x, getOf (l.drop p0) p m = x := ⟨_, rfl⟩
          have HRUN := Lib.hid hrun
          have HRC := Lib.hid (show rc ≤ l.length - p0 by have := getOf_le (l.drop p0) p m; rw [hrun] at this; simpa using this)
          have HREF := Lib.hid (show mastheadref12_Get.f 2000 s p m = some (txt ((l.drop p0).drop rc), (rv : Int), re) by
            have h1 := ref_get (l.drop p0) (by have := HL8.out; have := HL40.out; simp; omega) p m 2000 (by omega)
            rw [hrun] at h1
            rw [HS0.out]
            exact h1)
          have HTXT := Lib.hid (show txt ((l.drop p0).drop rc) = txt (l.drop (p0 + rc)) by rw [drop_drop'])
          have HPB2 : Hid (p0 + rc ≤ 8 * bs.length) := Lib.hid (by have := HRC.out; have := HL8.out; have := HPB.out; simp at this ⊢; omega)
          clear hrun
          go_wp2_with fail
          have hh := get_calls HPR.out HBY.out HS.out HPB.out p m
          rw [HL0.out, HRUN.out] at hh
          refine hh.mono ?_
          clear hh
          rintro e w3 ⟨rfl, hp3, hb3⟩
          have HP3 := Lib.hid hp3
          have HB3 := Lib.hid (HBR.out.trans hb3)
          clear hp3 hb3 HPR HBR c0
          go_wp2_with fail
          refine (mastheadref12_Get.calls _ s p m _ _ _ _ HREF.out).mono ?_
          rintro e w4 ⟨rfl, ⟨⟨nd, rfl⟩⟩⟩
          have HP4 := Lib.hid (HP3.out.drewN nd)
          have HB4 := Lib.hid (pw_below_drewN HB3.out nd)
          clear HP3 HB3
          generalize w3.drewN nd = w4 at HP4 HB4 ⊢
          rw [HTXT.out]
          obtain ⟨S, hS⟩ : ∃ S, txt (l.drop (p0 + rc)) = S := ⟨_, rfl⟩
          have hSz : S.size = (l.drop (p0 + rc)).length := by rw [← hS, txt_size]
          rw [hS]
          have HSS := Lib.hid hS
          have HSZ := Lib.hid (show (((l.drop (p0 + rc)).length : Nat) : Int) = (S.size : Int) by rw [hSz])
          clear hS hSz
          go_wp2_with fail
          have hh := rd_left HP4.out HS.out HPB2.out
          rw [HL0.out, HSZ.out] at hh
          refine hh.mono ?_
          clear hh
          rintro e w6 ⟨rfl, hp6, hb6, hk6⟩
          have HP6 := Lib.hid hp6
          have HB6 := Lib.hid (HB4.out.trans hb6)
          clear hp6 hb6 hk6 HP4 HB4
          go_wp2
          go_roundw
          case rel => exact ⟨k + 1, by omega, by omega, by omega, rfl, _, rfl, Lib.hid ⟨p0 + rc, HPB2.out, HSS.out.symm, HP6.out, HB6.out⟩⟩
          case measure => simp [intOf]; omega
      · go_wp2_with fail
        refine (awake_calls _).mono ?_
        rintro e w3 ⟨rfl, hb3⟩
        have HB3 := Lib.hid (HBR.out.trans (Below.mono hb3 HBR.out.size))
        clear hb3
        go_wp2
        go_ret
        exact ⟨rfl, HB3.out⟩
end Go.Proofs.Ytakpohcobpbjkaa.Hand
