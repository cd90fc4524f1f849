/- The link's Look. -/
import Derived.Test.YtklillecmjooeaaProg
import Derived.Below
import Derived.Deep.Draws
import Derived.Deep.AppendLies
import Derived.Maps.AppendAt
import Derived.OwnWalk
import Derived.Laws.BytesArg
import Derived.Laws.MakeOwn
import Derived.Laws.OwnMore
import Derived.Deep.OwnRows
import Derived.Tactics
import Derived.Lib.ConvBytes
import Derived.Laws.Slices
import Derived.WalkKit
import Derived.KernelRfl
import Derived.RowKit3
import Derived.Deep.LoopGhost
import Derived.Deep.QuietTactic
import Derived.BigQuiet
import Derived.WideLaws
import Derived.Deep.DeepCutAuto
import Derived.Deep.CutBlock
import Derived.Deep.RegionHeld3
import Derived.Laws.Rows
import Derived.Lib.AppendStr
import Derived.ArgAppend
import Derived.Laws.IdiomCopy
import Derived.OrdersHeld
import Derived.Laws.BitsLemmas
import Derived.RowKit
import Derived.StillTailTactics
import Derived.Test.YtklillecmjooeaaWWords
import Derived.Test.YtklillecmjooeaaWLast
import Derived.Test.YtklillecmjooeaaWMore
import Derived.Lib.Hide
import Derived.Outline
import Derived.Deep.RegionLaw
import Derived.Deep.DrawnRows
import Derived.Test.YtklillecmjooeaaLink
namespace Go.Proofs.Ytklillecmjooeaa.Hand
open Go Go.RowKit Go.Proofs.Ytklillecmjooeaa.Plain Go.Proofs.Ytklillecmjooeaa.PAll Go.Proofs.YtklillecmjooeaaW.PrintWords Go.Proofs.YtklillecmjooeaaW.PrintLast Go.Proofs.YtklillecmjooeaaW.PrintMore
set_option linter.unusedVariables false
set_option linter.unusedSimpArgs false
attribute [local go_sem ↓] Go.wp_at_zero Go.wp_at_succ
set_option maxHeartbeats 1000000 in
set_option maxRecDepth 100000 in
theorem llook_none {w : World} {B g : Nat} (p : Int) (h : IsL w B g []) :
    Calls Try.prog 10 #[.pointer (some ⟨g, 0, none⟩), .int .i64 p] w fun e w' => e = .returned (.tuple #[.slice none 0 0, .int .i64 0, .int .i64 6]) ∧ w = w' := by
  have HA := Lib.hid (lat_calls p h (by simp))
  clear h
  go_enter Try.func10, Try.ntmps10
  go_wp2_with (go_at_call 18; refine HA.out.mono ?_; rintro e w1 ⟨rfl, rfl⟩; rw [show atL p ([] : List S49).length = -1 from rfl])
  go_ret3
  exact ⟨rfl, rfl⟩
set_option maxHeartbeats 4000000 in
set_option maxRecDepth 100000 in
theorem llook_some {w : World} {B g : Nat} {ms : List S49} (p i : Int) (h : IsL w B g ms) (hml : ms.length ≤ 1000000) (hi : atL p ms.length = i) (h0i : 0 ≤ i) (h1i : i < ms.length) (hbl : (rd_T49 ms i).f0.length < 140737488355328) :
    Calls Try.prog 10 #[.pointer (some ⟨g, 0, none⟩), .int .i64 p] w fun e w' => ∃ v, e = .returned (.tuple #[v, .int .i64 (rd_T49 ms i).f1, .int .i64 0]) ∧ Kd.R (Kd.int .u8) 5 w' w.heap.size (fun _ => True) v (rd_T49 ms i).f0 ∧ Below w.heap.size w w' := by
  have HA := Lib.hid (lat_calls p h hml)
  rw [hi] at HA
  obtain ⟨hlt, A, c, ⟨h0, f0⟩, hg, hR⟩ := h.cells
  obtain ⟨_, _, hC⟩ := Kd.R_reads' hR
  obtain ⟨ad, A0, c0, rfl, x0, x1, xl, xC⟩ := at_T49 hC i h0i h1i
  obtain ⟨bs, hbs⟩ : ∃ bs, (rd_T49 ms i).f0 = bs := ⟨_, rfl⟩
  obtain ⟨sent, hsent⟩ : ∃ s, (rd_T49 ms i).f1 = s := ⟨_, rfl⟩
  rw [hbs] at x0 xl xC hbl ⊢
  rw [hsent] at x1 ⊢
  obtain ⟨n, hn⟩ : ∃ n, ms.length = n := ⟨_, rfl⟩
  rw [hn] at h0 h1i
  have HX := Lib.hid (show ∀ w1 : World, Below w.heap.size w w1 → w1.cell? ⟨g, 0, none⟩ = some (.slice (some ad) n c) ∧ w1.cell? (ad.add (i.toNat * 2)) = some (.slice A0 bs.length c0) ∧ w1.cell? ⟨(ad.add (i.toNat * 2)).block, (ad.add (i.toNat * 2)).off + 1, none⟩ = some (.int .i64 sent) from fun w1 hb => ⟨(hb.cell (World.block_lt_of_cell? w _ h0)).trans h0, (hb.cell (World.block_lt_of_cell? w _ x0)).trans x0, (hb.cell (World.block_lt_of_cell? w _ x1)).trans x1⟩)
  have XC := Lib.hid (Kd.C_below xC (below_drew (Below.refl _ w)))
  have XL := Lib.hid xl
  have HBL := Lib.hid hbl
  have p0 : (0 ≤ i) = True := eq_true h0i
  have p1 : (i < (n : Int)) = True := eq_true h1i
  have p2 : decide (i < 0) = false := decide_eq_false (by omega)
  clear hml hi hbl hg hR hC xl xC hbs hsent hn h h0i h1i
  go_enter Try.func10, Try.ntmps10
  go_wp2_with (go_at_call 18; refine HA.out.mono ?_; clear HA; rintro e w1 ⟨rfl, rfl⟩)
  go_region_law (go_simp; go_at_call 17; refine (clone_calls A0 _ c0 bs _ rfl XC.out XL.out HBL.out).mono ?_; rintro e w1 ⟨v1, rfl, hv1, hb1⟩; replace hb1 := below_of_drew hb1; obtain ⟨y0, y1, y2⟩ := HX.out w1 hb1; have HB1 := Lib.hid hb1; have HV1 := Lib.hid hv1; clear hv1 hb1)
  all_goals ((try go_wp2); go_ret3; exact ⟨_, rfl, HV1.out, HB1.out⟩)
end Go.Proofs.Ytklillecmjooeaa.Hand
