/- The levels of a list: the iterator, walked. -/
import Derived.Test.YtlmcdkjobdcflaaDoorProg
import Derived.Below
import Derived.Deep.Draws
import Derived.Deep.AppendLies
import Derived.Maps.AppendAt
import Derived.OwnWalk
import Derived.Laws.BytesArg
import Derived.Laws.MakeOwn
import Derived.Laws.OwnMore
import Derived.Deep.OwnRows
import Derived.Tactics
import Derived.Lib.ConvBytes
import Derived.Laws.Slices
import Derived.WalkKit
import Derived.KernelRfl
import Derived.RowKit3
import Derived.Deep.LoopGhost
import Derived.Deep.QuietTactic
import Derived.BigQuiet
import Derived.WideLaws
import Derived.Deep.DeepCutAuto
import Derived.Deep.CutBlock
import Derived.Deep.RegionHeld3
import Derived.Laws.Rows
import Derived.Lib.AppendStr
import Derived.ArgAppend
import Derived.Laws.IdiomCopy
import Derived.OrdersHeld
import Derived.Laws.BitsLemmas
import Derived.RowKit
import Derived.StillTailTactics
import Derived.Test.YtlmcdkjobdcflaaDoorWWords
import Derived.Test.YtlmcdkjobdcflaaDoorWLast
import Derived.Test.YtlmcdkjobdcflaaDoorWMore
import Derived.Lib.Hide
import Derived.Outline
import Derived.RangeFuncNested
import Derived.RangeFuncBound
import Derived.RangeFuncCalls
import Derived.RangeFuncLeaves
import Derived.Shelf.Abstract
import Derived.Shelf.RegionOpen
import Derived.OwnWalkIn
import Derived.TacticsInMore
import Derived.LoopNIn
import Derived.LoopIn
import Derived.Test.YtlmcdkjobdcflaaDoorRangeOwn
import Derived.Test.YtlmcdkjobdcflaaDoorAbove
namespace Go.Proofs.YtlmcdkjobdcflaaDoor.Hand
open Go Go.RowKit Go.Shelf Go.Proofs.YtlmcdkjobdcflaaDoor.Plain Go.Proofs.YtlmcdkjobdcflaaDoorW.PrintWords Go.Proofs.YtlmcdkjobdcflaaDoorW.PrintLast Go.Proofs.YtlmcdkjobdcflaaDoorW.PrintMore
set_option linter.unusedVariables false
set_option linter.unusedSimpArgs false
set_option maxRecDepth 100000
attribute [local go_sem] Oper.semAt_some
theorem levels_calls (A : Option Addr) (n c : Nat) (w : World) :
    Calls Tryd.prog 52 #[.slice A n c] w fun e w' => e = .returned (.func (.func 62) #[] #[.pointer (some ⟨w.heap.size, 0, none⟩)]) ∧ w' = w.alloc (.cells #[.slice A n c] 22) := by
  go_enter Tryd.func52, Tryd.ntmps52
  go_wp2
  go_ret
  exact ⟨rfl, rfl⟩
/-- The list at hand: the one that came in, or one made since. -/
def LRow (u0 : World) (base : Nat) (u : World) (A : Option Addr) (n c : Nat) (xs : List (List Int)) : Prop :=
  n = xs.length ∧ n ≤ c ∧ (Kd.C kH u0 A n xs ∨ Kd.R kH 25 u base (fun _ => True) (.slice A n c) xs)
theorem LRow.reads {u0 u : World} {base : Nat} {A : Option Addr} {n c : Nat} {xs : List (List Int)} (h : LRow u0 base u A n c xs) (hb : Below u0.heap.size u0 u) : Kd.C kH u A n xs := by
  obtain ⟨h1, h2, h3 | h3⟩ := h
  · exact Kd.C_below h3 hb
  · obtain ⟨e, _, hC⟩ := Kd.R_reads' h3
    rw [← h1] at hC
    exact hC
theorem LRow.keep {u0 u u1 : World} {base : Nat} {A : Option Addr} {n c : Nat} {xs : List (List Int)} (h : LRow u0 base u A n c xs) (hk : ∀ k, k < u.heap.size → base ≤ k → u1.heap[k]? = u.heap[k]?) : LRow u0 base u1 A n c xs := by
  obtain ⟨h1, h2, h3 | h3⟩ := h
  · exact ⟨h1, h2, .inl h3⟩
  · exact ⟨h1, h2, .inr (Kd.R_mono (Kd.R_step (Kd.R_bound h3) (fun k hk1 hk2 => hk k hk2 hk1.2.1)) (fun _ _ => trivial))⟩
def lenAt (L : Nat) (w : World) : Nat := match w.cell? ⟨L, 0, none⟩ with | some (.slice _ n _) => n | _ => 0
theorem lenAt_of {L : Nat} {w : World} {A : Option Addr} {n c : Nat} (h : w.cell? ⟨L, 0, none⟩ = some (.slice A n c)) : lenAt L w = n := by unfold lenAt; rw [h]
/-- What a round is handed. -/
def LX (u0 : World) (base : Nat) (ys : List (List Int)) (d : Nat) (i : Nat) (xs : Array Value) (W : World) : Prop := ∃ A n c, xs = #[.slice A n c] ∧ i ≤ d ∧ LRow u0 base W A n c (lev ys i) ∧ Below u0.heap.size u0 W
theorem LX.putObj {u0 : World} {base : Nat} {ys : List (List Int)} {d i : Nat} {xs : Array Value} {W : World} {l : Nat} {r : Loop} (h : LX u0 base ys d i xs W) (hl : W.heap[l]? = some (.loop r)) (h0 : u0.heap.size ≤ l) (o : Obj) : LX u0 base ys d i xs (W.putObj l o) := by
  obtain ⟨A, n, c, e, hi, ⟨h1, h2, h3⟩, hb⟩ := h
  refine ⟨A, n, c, e, hi, ⟨h1, h2, h3.imp id (fun h4 => ?_)⟩, hb.trans ⟨rfl, rfl, rfl, by simp, fun k hk => World.putObj_heap_other (by omega)⟩⟩
  refine Kd.R_mono (Kd.R_step (Kd.R_bound h4) (fun k hk _ => World.putObj_heap_other ?_)) (fun _ _ => trivial)
  rintro rfl
  obtain ⟨_, _, _, q, _, cells, hc⟩ := hk
  rw [hl] at hc
  cases hc
set_option maxHeartbeats 2000000 in
theorem levels_seq (m : Nat) (u0 w : World) (L d : Nat) (A : Option Addr) (n c : Nat) (ys : List (List Int)) (hn : n = ys.length) (hc : n ≤ c) (hl : n ≤ 100000) (hH : Hs ys) (hK : KT u0) (hr : Kd.C kH u0 A n ys)
    (hb : Below u0.heap.size u0 w) (hL0 : u0.heap.size ≤ L) (hLw : w.heap[L]? = some (.cells #[.slice A n c] 22 (0, 0))) (hd : IsDepth ys.length d) :
    SeqL Fence.wide m Tryd.prog 62 #[.pointer (some ⟨L, 0, none⟩)] u0.heap.size L (LX u0 w.heap.size ys d) (fun i => i = d + 1) w := by
  intro l J Jx W hW hJ hJx hY h0
  obtain ⟨hd1, hd2⟩ := depth_wide hd
  have hlev := lev_len ys
  have hwle := wideP_le ys.length
  have HHS := Lib.hid (fun i => lev_Hs hH i)
  have HWS := Lib.hid hW.size
  have HC0 := Lib.hid hr
  have HK := Lib.hid hK
  have HJ := Lib.hid hJ
  have HJX := Lib.hid hJx
  have HY := Lib.hid hY
  have HLW := Lib.hid ((hW.block L (blk_lt hLw)).trans hLw)
  have HB := Lib.hid (hb.trans (Below.mono hW hb.size))
  have HLT := Lib.hid (blk_lt HLW.out)
  have HD := Lib.hid (And.intro hd1 (And.intro hd2 (And.intro hlev hwle)))
  have HN := Lib.hid (And.intro hn (And.intro hc hl))
  clear hd1 hd2 hlev hwle hH hr hK hJ hJx hY hLw hb hW hd hn hc hl
  refine callsIn_of_wp Tryd.func62 rfl trivial ?_ rfl
  simp only [Tryd.ntmps62, List.size_toArray, List.length_cons, List.length_nil, Nat.reduceAdd, Nat.reduceSub, Array.replicate_succ, Array.replicate_zero, List.push_toArray, List.append_toArray, List.nil_append, List.cons_append]
  gi_wp2
  gi_loopw [3] (fun s wr => ∃ (i : Nat) (A1 : Option Addr) (n1 c1 : Nat), Hid (i ≤ d ∧ n1 ≤ 100000 ∧ wr.heap[L]? = some (.cells #[.slice A1 n1 c1] 22 (0, 0)) ∧ LRow u0 W.heap.size wr A1 n1 c1 (lev ys i) ∧ Below u0.heap.size u0 wr ∧ W.heap.size ≤ wr.heap.size ∧ J i wr)) (fun s wr => lenAt L wr)
  case atStart => exact ⟨0, A, n, c, Lib.hid ⟨Nat.zero_le _, HN.out.2.2, HLW.out, ⟨HN.out.1, HN.out.2.1, .inl HC0.out⟩, HB.out, Nat.le_refl _, h0⟩⟩
  case round =>
    obtain ⟨i, A1, n1, c1, H⟩ := hrel
    obtain ⟨hid, hn1, hcL, hrow, hbu, hsz, hJi⟩ := H.out
    have hX : LX u0 w.heap.size ys d i #[.slice A1 n1 c1] wr := ⟨A1, n1, c1, rfl, hid, ⟨hrow.1, hrow.2.1, hrow.2.2.imp id (fun h4 => Kd.R_lower h4 HWS.out)⟩, hbu⟩
    obtain ⟨fn, tmps, assign, body, hy, hR⟩ := HY.out i _ wr hJi hX hsz
    have hm := lenAt_of (blk_cell hcL 0)
    have hcell := blk_cell hcL 0
    have HI := Lib.hid (And.intro hid (And.intro hn1 (And.intro hcL (And.intro hrow (And.intro hbu hsz)))))
    clear hid hn1 hcL hrow hbu hsz hJi hX H
    have hcell2 : wr.cell? ⟨L, 0, none⟩ = some (.slice A1 n1 c1) := hcell
    have HM := Lib.hid hm
    clear hcell hm
    gi_wp2
    refine ⟨(fun e => by cases e), hR.mono ?_⟩
    rintro e W' (⟨rfl, hJ', hk⟩ | ⟨rfl, hJx'⟩)
    · obtain ⟨hid, hn1, hcL, hrow, hbu, hsz⟩ := HI.out
      have hcL2 : W'.heap[L]? = some (.cells #[.slice A1 n1 c1] 22 (0, 0)) := (hk.block L (blk_lt hcL) (.inr (.inr rfl))).trans hcL
      have hrow2 := hrow.keep (u1 := W') (fun k hk1 hk2 => hk.block k hk1 (.inr (.inl hk2)))
      have hbu2 : Below u0.heap.size u0 W' := hbu.trans (hk.below (fun k hk => .inl hk) hbu.size)
      have hsz2 : W.heap.size ≤ W'.heap.size := Nat.le_trans hsz hk.size
      have hn := hrow.1
      rw [HD.out.2.2.1] at hn
      have hc2 := blk_cell hcL2 0
      have hf2 := blk_frozen hcL2 0
      have hc3 : W'.cell? ⟨L, 0, none⟩ = some (.slice A1 n1 c1) := hc2
      by_cases h1 : 1 < n1
      · have hlt : i < d := by
          by_cases e : i = d
          · subst e
            have := HD.out.1
            omega
          · omega
        have HAB := Lib.hid (above_calls A1 n1 c1 (lev ys i) W' hrow.1 (hrow2.reads hbu2) hrow.2.1 hn1 (HHS.out i) (HK.out.below hbu2 (Nat.le_refl _)))
        have hg1 : decide ((1 : Int) < (n1 : Int)) = true := decide_eq_true (by omega)
        have HI2 := Lib.hid (And.intro hbu2 (And.intro hsz2 (And.intro hrow.1 (And.intro hlt (And.intro hn1 (And.intro hn (And.intro hcL2 hJ')))))))
        clear hid hn1 hcL hrow hbu hsz hcL2 hrow2 hbu2 hsz2 hJ' hk hc2 hn hlt h1
        gi_wp2_with fail
        refine ⟨trivial, (fun e => by cases e), (callsIn_wide.2 HAB.out).mono ?_⟩
        rintro e w5 ⟨v, rfl, hR5, hb5⟩
        obtain ⟨A5, c5, rfl, hc5, hC5⟩ := Kd.R_reads hR5
        have HR5 := Lib.hid hR5
        have HB5 := Lib.hid hb5
        have HC5 := Lib.hid hc5
        have hcL5 : w5.cell? ⟨L, 0, none⟩ = some (.slice A1 n1 c1) := (hb5.cell (p := ⟨L, 0, none⟩) (blk_lt HI2.out.2.2.2.2.2.2.1)).trans hc3
        have hfL5 : w5.frozen? ⟨L, 0, none⟩ = false := (hb5.frozen (p := ⟨L, 0, none⟩) (blk_lt HI2.out.2.2.2.2.2.2.1)).trans hf2
        clear hR5 hb5 hc5 hC5 HAB
        gi_wp2
        go_roundw
        case rel =>
          obtain ⟨hbu2, hsz2, hnr, hlt, hn1, hn, hcL2, hJ'⟩ := HI2.out
          have hLlt : L < W'.heap.size := blk_lt hcL2
          have hcL5' := (HB5.out.block L hLlt).trans hcL2
          have hle : (aboveP (lev ys i)).length ≤ 100000 := by rw [aboveP_len, ← hnr]; omega
          refine ⟨i + 1, A5, (aboveP (lev ys i)).length, c5, Lib.hid ⟨hlt, hle, blk_set hcL5' 0 _, ⟨rfl, HC5.out, .inr ?_⟩, ?_, ?_, ?_⟩⟩
          · refine Kd.R_mono (Kd.R_far (p := ⟨L, 0, none⟩) (Kd.R_bound (Kd.R_lower HR5.out hsz2)) (fun k hk => ?_) _) (fun _ _ => trivial)
            have h1 := hk.2.1
            have h2 := HLT.out
            show k ≠ L
            omega
          · exact (hbu2.trans (Below.mono HB5.out hbu2.size)).setCell (p := ⟨L, 0, none⟩) hL0 _
          · rw [World.size_setCell]
            exact Nat.le_trans hsz2 HB5.out.size
          · exact HJ.out (i + 1) W' _ hJ' ((Same.of_below HB5.out).trans (Same.setCell w5 (p := ⟨L, 0, none⟩) _ (fun h => h.2 rfl)))
        case measure =>
          obtain ⟨hbu2, hsz2, hnr, hlt, hn1, hn, hcL2, hJ'⟩ := HI2.out
          have hcL5' := (HB5.out.block L (blk_lt hcL2)).trans hcL2
          have h5 : lenAt L (w5.setCell ⟨L, 0, none⟩ (.slice A5 (aboveP (lev ys i)).length c5)) = (aboveP (lev ys i)).length := lenAt_of (blk_cell (blk_set hcL5' 0 _) 0)
          have h6 : (1 : Int) < (n1 : Int) := of_decide_eq_true hg1
          rw [h5, HM.out, aboveP_len, ← hnr]
          omega
      · have hid2 : i = d := by
          by_cases e : i = d
          · exact e
          · have := HD.out.2.1 i (by omega)
            omega
        subst hid2
        have hg1 : decide ((1 : Int) < (n1 : Int)) = false := decide_eq_false (by omega)
        clear hid hn1 hcL hrow hbu hsz hcL2 hrow2 hbu2 hsz2 hk hc2 hn h1
        gi_wp2
        go_end0
        exact ⟨⟨_, rfl⟩, .inl ⟨i + 1, rfl, hJ'⟩⟩
    · gi_wp2
      go_end0
      exact ⟨⟨_, rfl⟩, .inr ⟨i + 1, hJx'⟩⟩
end Go.Proofs.YtlmcdkjobdcflaaDoor.Hand
