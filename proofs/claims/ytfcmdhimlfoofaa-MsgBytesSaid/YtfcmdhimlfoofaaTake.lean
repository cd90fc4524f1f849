/- The codec's reader: Take and Num. -/
import Derived.Test.YtfcmdhimlfoofaaProg
import Derived.Below
import Derived.Deep.Draws
import Derived.Deep.AppendLies
import Derived.Maps.AppendAt
import Derived.OwnWalk
import Derived.Laws.BytesArg
import Derived.Laws.MakeOwn
import Derived.Laws.OwnMore
import Derived.Deep.OwnRows
import Derived.Tactics
import Derived.Lib.ConvBytes
import Derived.Laws.Slices
import Derived.WalkKit
import Derived.KernelRfl
import Derived.RowKit3
import Derived.Deep.LoopGhost
import Derived.Deep.QuietTactic
import Derived.BigQuiet
import Derived.WideLaws
import Derived.Deep.DeepCutAuto
import Derived.Deep.CutBlock
import Derived.Deep.RegionHeld3
import Derived.Laws.Rows
import Derived.Lib.AppendStr
import Derived.ArgAppend
import Derived.Laws.IdiomCopy
import Derived.OrdersHeld
import Derived.Laws.BitsLemmas
import Derived.RowKit
import Derived.StillTailTactics
import Derived.Test.YtfcmdhimlfoofaaWWords
import Derived.Test.YtfcmdhimlfoofaaWLast
import Derived.Test.YtfcmdhimlfoofaaWMore
import Derived.Lib.Hide
import Derived.Outline
import Derived.Deep.RegionLaw
import Derived.Deep.RegionHeld3
import Derived.BigRegion
import Derived.Test.YtfcmdhimlfoofaaReader
import Derived.Test.YtfcmdhimlfoofaaCodecPlain
namespace Go.Proofs.Ytfcmdhimlfoofaa.Hand
open Go Go.RowKit Go.Proofs.Ytfcmdhimlfoofaa.Plain Go.Proofs.Ytfcmdhimlfoofaa.PAll Go.Proofs.YtfcmdhimlfoofaaW.PrintWords Go.Proofs.YtfcmdhimlfoofaaW.PrintLast Go.Proofs.YtfcmdhimlfoofaaW.PrintMore
attribute [local go_sem] max2_int min2_int max_two min_two max_three min_three max_four min_four
set_option linter.unusedVariables false
set_option linter.unusedSimpArgs false
/-- A cut out of the middle of a row that lies ahead of a block. -/
theorem mid_cut {w : World} {g c : Nat} {A : Option Addr} {bs : List Int} (hC : Kd.C (Kd.int .u8) (trunc w g) A bs.length bs) (hc : bs.length ≤ c) (p : Nat) (q : Int) (hpq : (p : Int) ≤ q) (hq : q ≤ bs.length) :
    ∃ A' n' c', (∀ W : World, (Instr.slice 23 (.slice A bs.length c) (some (.int .i64 (p : Int))) (some (.int .i64 q)) none).run Try.prog W = .ok (.slice A' n' c') W) ∧ n' = ((bs.drop p).take (q.toNat - p)).length ∧ Kd.C (Kd.int .u8) (trunc w g) A' ((bs.drop p).take (q.toNat - p)).length ((bs.drop p).take (q.toNat - p)) ∧ ((bs.drop p).take (q.toNat - p)).length ≤ c' := by
  obtain ⟨i0, hi0, _, hsz0, _⟩ := info_parts info5
  have hsl := cut_mid (P := Try.prog) 23 5 .i64 .i64 Try.underlying23 hi0 1 hsz0 A bs.length c (p : Int) q (by omega) hpq hq hc
  have hmid := Kd.C_mid (lo := p) (hi := q.toNat) hC (by omega) (by omega) hc
  have e : (bs.take q.toNat).drop p = (bs.drop p).take (q.toNat - p) := by rw [List.drop_take]
  rw [e] at hmid
  refine ⟨_, _, _, hsl, ?_, hmid, ?_⟩
  · simp; omega
  · simp; omega
theorem R_nil_g (w : World) (base : Nat) (ok : Nat → Prop) : Kd.R (Kd.int .u8) 5 w base ok (.slice none 0 0) [] := Kd.R_nil _ _ _ _ _
set_option maxHeartbeats 4000000 in
set_option maxRecDepth 100000 in
theorem ctake_calls {w : World} {B g : Nat} {bs : List Int} {p : Nat} {x : Int} (h : IsR w B g bs (p : Int) x) (hp : p ≤ bs.length) (hl : bs.length ≤ 100000000) (a : Int) (ha : a ≤ 9223372036854775807) :
    Calls Try.prog 52 #[.pointer (some ⟨g, 0, none⟩), .int .i64 a] w fun e w' => ∃ v : Value, e = .returned v ∧ Kd.R (Kd.int .u8) 5 w' w.heap.size (fun k => k ≠ g) v (takeR bs p x a).1 ∧ IsR w' B g bs ((takeR bs p x a).2.1 : Nat) (takeR bs p x a).2.2 ∧ RKeep w w' B g := by
  have HW := Lib.hid h
  obtain ⟨A, c, h0, h1, h2, f1, f2, hcap, hC⟩ := h.cells
  obtain ⟨m, hm, hm0, hmN⟩ : ∃ m : Int, (if a < 0 then 0 else a) = m ∧ 0 ≤ m ∧ m.toNat = a.toNat := by
    by_cases h : a < 0
    · exact ⟨0, if_pos h, by omega, by omega⟩
    · exact ⟨a, if_neg h, by omega, rfl⟩
  have HCAP := Lib.hid hcap
  have HC := Lib.hid hC
  have HL := Lib.hid hl
  have HLT := Lib.hid h.lt
  have HBG := Lib.hid h.1
  by_cases hx : x = 0
  · subst hx
    by_cases hs : (bs.length : Int) - p < m
    · have ht : takeR bs p 0 a = ([], p, 2) := by
        unfold takeR
        rw [if_neg (by decide), if_pos (by omega)]
      rw [ht]
      obtain ⟨d, hd⟩ : ∃ d : Int, (bs.length : Int) - p = d := ⟨_, rfl⟩
      have hw1 : IntKind.i64.wrap ((bs.length : Int) - (p : Int)) = d := by rw [IntWalk.i64_in _ (by omega)]; exact hd
      have f3 : decide (d < m) = true := decide_eq_true (by omega)
      clear hd hs ht hcap hC hp hl h hm0 hmN ha
      go_enter Try.func52, Try.ntmps52
      go_wp2_with fail
      go_quiet (fail)
      have HW1 := Lib.hid (HW.out.drewN nq)
      generalize hq : w.drewN nq = w1 at *
      have HB1 := Lib.hid (show RKeep w w1 B g by rw [← hq]; exact (RKeep.refl w B g).drewN nq)
      have h1' : w1.cell? ⟨g, 1, none⟩ = some (.int .i64 (p : Int)) := by rw [← hq]; exact h1
      clear h0 h1 h2 f1 f2 hq
      go_wp2_with fail
      refine (cfail_calls HW1.out (p : Int) 2).mono ?_
      rintro e w2 ⟨rfl, hw2, hk2⟩
      have HW2 := Lib.hid hw2
      have HK2 := Lib.hid (HB1.out.trans hk2)
      clear hw2 hk2 h1'
      go_wp2
      go_ret
      exact ⟨_, rfl, R_nil_g _ _ _, HW2.out, HK2.out⟩
    · obtain ⟨q, hq, hqN⟩ : ∃ q : Int, (p : Int) + m = q ∧ q.toNat - p = a.toNat := ⟨_, rfl, by omega⟩
      have ht : takeR bs p 0 a = ((bs.drop p).take a.toNat, q.toNat, 0) := by
        unfold takeR
        rw [if_neg (by decide), if_neg (by omega)]
        simp only [Prod.mk.injEq, and_true, true_and]
        omega
      rw [ht]
      obtain ⟨d, hd⟩ : ∃ d : Int, (bs.length : Int) - p = d := ⟨_, rfl⟩
      have hw1 : IntKind.i64.wrap ((bs.length : Int) - (p : Int)) = d := by rw [IntWalk.i64_in _ (by omega)]; exact hd
      have f3 : decide (d < m) = false := decide_eq_false (by omega)
      have hw2 : IntKind.i64.wrap ((p : Int) + m) = q := by rw [IntWalk.i64_in _ (by omega)]; exact hq
      have hw3 : wrap64 ((p : Int) + m) = q := by rw [wrap64_id (by omega) (by omega)]; exact hq
      have hw4 : IntKind.i64.wrap (q - m) = (p : Int) := by rw [IntWalk.i64_in _ (by omega)]; omega
      have HQN := Lib.hid (show ((q.toNat : Nat) : Int) = q by omega)
      obtain ⟨hB, A2, c2, hb2, hc2, hC2⟩ := h
      have hc0 : w.cell? ⟨g, 0, none⟩ = some (.slice A2 bs.length c2) := blk_cell hb2 0
      obtain ⟨eA, ec⟩ : A = A2 ∧ c = c2 := by
        rw [h0] at hc0
        injection hc0 with hc0
        injection hc0 with e1 _ e3
        exact ⟨e1, e3⟩
      subst eA ec
      obtain ⟨A', n', c', hsl, hn', hC', hc'⟩ := mid_cut hC2 hc2 p q (by omega) (by omega)
      rw [hqN] at hn' hC' hc'
      have HYL := Lib.hid (show ((bs.drop p).take a.toNat).length < 140737488355328 by simp; omega)
      generalize (bs.drop p).take a.toNat = ys at hn' hC' hc' HYL
      subst hn'
      have HC' := Lib.hid hC'
      have HCC' := Lib.hid hc'
      clear hd hs ht hcap hC hp hl hm0 hmN ha hc0 hb2 hc2 hC2 hq hqN hC' hc' HC
      go_enter Try.func52, Try.ntmps52
      go_wp2_with fail
      go_quiet (fail)
      have HW1 := Lib.hid (HW.out.drewN nq)
      have HTR := Lib.hid (pw_below_drewN (below_trunc HW.out.lt) nq)
      generalize hq : w.drewN nq = w1 at *
      have HB1 := Lib.hid (show RKeep w w1 B g by rw [← hq]; exact (RKeep.refl w B g).drewN nq)
      have h1' : w1.cell? ⟨g, 1, none⟩ = some (.int .i64 (p : Int)) := by rw [← hq]; exact h1
      have h0' : w1.cell? ⟨g, 0, none⟩ = some (.slice A bs.length c) := by rw [← hq]; exact h0
      have f1' : w1.frozen? ⟨g, 1, none⟩ = false := by rw [← hq]; exact f1
      have HSZ := Lib.hid (show w.heap.size = w1.heap.size by rw [← hq]; rfl)
      clear h0 h1 h2 f1 f2 hq
      go_wp2_with fail
      obtain ⟨k1, k2, k3⟩ := HW1.out.setAt q
      have g0 : (w1.setCell ⟨g, 1, none⟩ (.int .i64 q)).cell? ⟨g, 0, none⟩ = some (.slice A bs.length c) := by rw [World.cell?_setCell_other _ _ _ _ (by simp)]; exact h0'
      have g1 : (w1.setCell ⟨g, 1, none⟩ (.int .i64 q)).cell? ⟨g, 1, none⟩ = some (.int .i64 q) := World.cell?_setCell_same' _ _ _ (by rw [h1']; rfl)
      have HK1 := Lib.hid k1
      have HB2 := Lib.hid (HB1.out.trans ⟨k2, k3⟩)
      have HCW := Lib.hid (Kd.C_below HC'.out (HTR.out.setCell (p := ⟨g, 1, none⟩) (by rw [trunc_size HLT.out]; exact Nat.le_refl _) (.int .i64 q)))
      have HSZ2 := Lib.hid (show w.heap.size = (w1.setCell ⟨g, 1, none⟩ (.int .i64 q)).heap.size by rw [World.size_setCell]; exact HSZ.out)
      clear k1 k2 k3 h0' h1' f1'
      generalize w1.setCell ⟨g, 1, none⟩ (.int .i64 q) = w2 at *
      go_region_held3 (fun w' => w'.cell? ⟨g, 0, none⟩ = some (.slice A bs.length c) ∧ w'.cell? ⟨g, 1, none⟩ = some (.int .i64 q)) (first | exact ⟨g0, g1⟩ | exact ⟨g0', g1'⟩)
        (first | (go_at_call 44; refine (clone_calls A' _ c' ys _ rfl (Kd.C_drew HCW.out) HCC'.out HYL.out).mono ?_; rintro e w3 ⟨v, rfl, hv, hb⟩; replace hb := below_of_drew hb; have g0' := pw_cell_below hb g0; have g1' := pw_cell_below hb g1; have HV := Lib.hid hv; have HB3 := Lib.hid hb; clear hv hb))
      go_wp2
      go_ret
      refine ⟨_, rfl, ?_, by rw [HQN.out]; exact HK1.out.later HB3.out, HB2.out.below (by have := HBG.out; have := HK1.out.lt; omega) HB3.out⟩
      rw [HSZ2.out]
      refine Kd.R_mono (Kd.R_bound HV.out) (fun k hk => ?_)
      have h1 : w2.heap.size ≤ k := hk.2.1
      have h2 := HK1.out.lt
      omega
  · have ht : takeR bs p x a = ([], p, x) := by unfold takeR; rw [if_pos hx]
    rw [ht]
    have b1 : (x != 0) = true := bne_iff_ne.2 hx
    clear hx ht hcap hC hp hl h hm0 hmN ha
    go_enter Try.func52, Try.ntmps52
    go_wp2_with fail
    go_ret
    exact ⟨_, rfl, R_nil_g _ _ _, HW.out, RKeep.refl _ _ _⟩
set_option maxHeartbeats 1000000 in
theorem cnumr_calls {w : World} {B g : Nat} {bs : List Int} {p : Nat} {x : Int} (h : IsR w B g bs (p : Int) x) (hb : ∀ y ∈ bs, 0 ≤ y ∧ y < 256) (hp : p ≤ bs.length) (hl : bs.length ≤ 100000000) (a : Int) :
    Calls Try.prog 31 #[.pointer (some ⟨g, 0, none⟩), .int .i64 a] w fun e w' => e = .returned (.int .u64 (numR bs p x a).1) ∧ IsR w' B g bs ((numR bs p x a).2.1 : Nat) (numR bs p x a).2.2 ∧ RKeep w w' B g := by
  obtain ⟨m, hm⟩ : ∃ m : Int, mx a 0 = m := ⟨_, rfl⟩
  have em : (if a < 0 then 0 else a) = m := hm
  obtain ⟨q, hq⟩ : ∃ q : Int, mn m 8 = q := ⟨_, rfl⟩
  have eq_ : (if 8 < m then 8 else m) = q := hq
  have hq0 : 0 ≤ q ∧ q ≤ 8 := by rw [← hq, ← hm]; unfold mn mx; constructor <;> (repeat' split) <;> omega
  have hwid : ((wid a : Nat) : Int) = q := by unfold wid; rw [hm, hq]; omega
  unfold numR
  rw [hwid]
  have HT := Lib.hid (ctake_calls h hp hl q (by omega))
  have HB := Lib.hid (takeR_bytes hb p x q)
  have HLN := Lib.hid (takeR_len bs p x q)
  have HQ := Lib.hid hq0
  have HBG := Lib.hid h.1
  obtain ⟨r, hr⟩ : ∃ r, takeR bs p x q = r := ⟨_, rfl⟩
  rw [hr] at HT HB HLN ⊢
  obtain ⟨ys, p2, x2⟩ := r
  simp only at HT HB HLN ⊢
  clear hm hq hq0 hwid h hb hp hl hr
  go_enter Try.func31, Try.ntmps31
  go_wp2_with fail
  refine HT.out.mono ?_
  rintro e w1 ⟨v, rfl, hv, hw, hk⟩
  obtain ⟨A1, c1, rfl, hc1, hC1⟩ := Kd.R_reads hv
  have HC1 := Lib.hid hC1
  have HCC := Lib.hid hc1
  have HW1 := Lib.hid hw
  have HK1 := Lib.hid hk
  have HY : Hid (ys.length ≤ 8) := Lib.hid (by have := HLN.out; have := HQ.out; omega)
  have HNUM := Lib.hid (num_tells ys HB.out 20 (by omega) (by have := HY.out; omega))
  rw [List.take_of_length_le HY.out] at HNUM
  clear hv hc1 hC1 hw hk em eq_ HT
  go_wp2_with fail
  refine (octet_Num.calls 20 A1 c1 ys _ _ HC1.out HCC.out HNUM.out).mono ?_
  rintro e w2 ⟨rfl, hb⟩
  have HB2 := Lib.hid hb
  clear hb
  go_wp2
  go_ret
  exact ⟨rfl, HW1.out.later HB2.out, HK1.out.below (by have := HBG.out; have := HW1.out.lt; omega) HB2.out⟩
end Go.Proofs.Ytfcmdhimlfoofaa.Hand
