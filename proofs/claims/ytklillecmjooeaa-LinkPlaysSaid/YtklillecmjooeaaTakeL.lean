/- The link's Take and Drop. -/
import Derived.Test.YtklillecmjooeaaProg
import Derived.Below
import Derived.Deep.Draws
import Derived.Deep.AppendLies
import Derived.Maps.AppendAt
import Derived.OwnWalk
import Derived.Laws.BytesArg
import Derived.Laws.MakeOwn
import Derived.Laws.OwnMore
import Derived.Deep.OwnRows
import Derived.Tactics
import Derived.Lib.ConvBytes
import Derived.Laws.Slices
import Derived.WalkKit
import Derived.KernelRfl
import Derived.RowKit3
import Derived.Deep.LoopGhost
import Derived.Deep.QuietTactic
import Derived.BigQuiet
import Derived.WideLaws
import Derived.Deep.DeepCutAuto
import Derived.Deep.CutBlock
import Derived.Deep.RegionHeld3
import Derived.Laws.Rows
import Derived.Lib.AppendStr
import Derived.ArgAppend
import Derived.Laws.IdiomCopy
import Derived.OrdersHeld
import Derived.Laws.BitsLemmas
import Derived.RowKit
import Derived.StillTailTactics
import Derived.Test.YtklillecmjooeaaWWords
import Derived.Test.YtklillecmjooeaaWLast
import Derived.Test.YtklillecmjooeaaWMore
import Derived.Lib.Hide
import Derived.Outline
import Derived.Test.YtklillecmjooeaaDelete
import Derived.Test.YtklillecmjooeaaWApart
namespace Go.Proofs.Ytklillecmjooeaa.Hand
open Go Go.RowKit Go.Proofs.Ytklillecmjooeaa.Plain Go.Proofs.Ytklillecmjooeaa.PAll Go.Proofs.YtklillecmjooeaaW.PrintWords Go.Proofs.YtklillecmjooeaaW.PrintLast Go.Proofs.YtklillecmjooeaaW.PrintMore
set_option linter.unusedVariables false
set_option linter.unusedSimpArgs false
set_option maxHeartbeats 1000000 in
set_option maxRecDepth 100000 in
theorem ltake_none {w : World} {B g : Nat} (p : Int) (h : IsL w B g []) :
    Calls Try.prog 9 #[.pointer (some ⟨g, 0, none⟩), .int .i64 p] w fun e w' => e = .returned (.tuple #[.slice none 0 0, .int .i64 6]) ∧ w = w' := by
  have HA := Lib.hid (lat_calls p h (by simp))
  clear h
  go_enter Try.func9, Try.ntmps9
  go_wp2_with (go_at_call 18; refine HA.out.mono ?_; rintro e w1 ⟨rfl, rfl⟩; rw [show atL p ([] : List S49).length = -1 from rfl])
  go_ret2
  exact ⟨rfl, rfl⟩
set_option maxHeartbeats 4000000 in
set_option maxRecDepth 100000 in
theorem ltake_some {w : World} {B g : Nat} {ms : List S49} (p i : Int) (h : IsL w B g ms) (hml : ms.length ≤ 1000000) (hi : atL p ms.length = i) (h0i : 0 ≤ i) (h1i : i < ms.length) :
    Calls Try.prog 9 #[.pointer (some ⟨g, 0, none⟩), .int .i64 p] w fun e w' => ∃ v, e = .returned (.tuple #[v, .int .i64 0]) ∧ Kd.R (Kd.int .u8) 5 w' B (fun k => k ≠ g ∧ some k ≠ rowAt w' g) v (rd_T49 ms i).f0 ∧ IsL w' B g (ms.eraseIdx i.toNat) ∧ Below B w w' ∧ CKeep w w' g := by
  have HA := Lib.hid (lat_calls p h hml)
  rw [hi] at HA
  have hB : B ≤ g := h.1
  obtain ⟨hlt, A, c, ⟨h0, f0⟩, hg, hR⟩ := h.cells
  obtain ⟨_, _, hC⟩ := Kd.R_reads' hR
  obtain ⟨ad, A0, c0, rfl, x0, x1, xl, xC⟩ := at_T49 hC i h0i h1i
  obtain ⟨gr, rfl⟩ := Kd.R_head hR
  obtain ⟨cs, hcl, hM, hcc, _⟩ := Kd.R_elem hR z49 i h0i h1i
  obtain ⟨v0, rfl, hv0⟩ := k49_openM hM
  have hv00 : v0 = .slice A0 (rd_T49 ms i).f0.length c0 := by
    have e1 := hcc 0 v0 rfl
    have e2 : (⟨gr, 0, none⟩ : Addr).add (i.toNat * 2) = ⟨gr, i.toNat * k49.sz + 0, none⟩ := by rw [add_at, Nat.zero_add]; rfl
    rw [e2, e1] at x0
    exact Option.some.inj x0
  subst hv00
  have hi' : ((i.toNat : Nat) : Int) = i := by omega
  have hD := ldelete_calls (k := i.toNat) hR (by omega) hml (by omega)
  rw [hi'] at hD
  have HV : Hid (∀ w1, w.grownBy w1 (some gr) → Kd.R (Kd.int .u8) 5 w1 B (fun k => k ≠ g ∧ k ≠ gr) (.slice A0 (rd_T49 ms i).f0.length c0) (rd_T49 ms i).f0) := Lib.hid fun w1 hg1 => by
    have h1 : Kd.R (Kd.int .u8) 5 w B (fun k => k ≠ g ∧ k ≠ gr) (.slice A0 (rd_T49 ms i).f0.length c0) (rd_T49 ms i).f0 := Kd.R_mono (Kd.R_types hv0 hg (by decide)) (fun k hk => ⟨hk.2, hk.1.2⟩)
    exact Kd.R_grown h1 hg1 (fun k hk e => hk.2 (Option.some.inj e))
  have HBG : Hid (∀ w1, w.grownBy w1 (some gr) → Below B w w1) := Lib.hid fun w1 hg1 => (Below.refl B w).grown hg1 (by omega) (fun k hk => by injection hk with hk; subst hk; exact Kd.R_base hR _ (by simp [Value.ownBlock]))
  have HGR : Hid (∀ (w1 : World) (n1 : Nat), Kd.R k49 49 w1 B (fun _ => True) (.slice (some ⟨gr, 0, none⟩) n1 c) (ms.eraseIdx i.toNat) → w.grownBy w1 (some gr) → w1.frozen? ⟨g, 0, none⟩ = false ∧ w1.cell? ⟨g, 0, none⟩ = some (.slice (some ⟨gr, 0, none⟩) ms.length c) ∧ IsL (w1.setCell ⟨g, 0, none⟩ (.slice (some ⟨gr, 0, none⟩) n1 c)) B g (ms.eraseIdx i.toNat) ∧ Below B w (w1.setCell ⟨g, 0, none⟩ (.slice (some ⟨gr, 0, none⟩) n1 c)) ∧ CKeep w (w1.setCell ⟨g, 0, none⟩ (.slice (some ⟨gr, 0, none⟩) n1 c)) g ∧ Kd.R (Kd.int .u8) 5 (w1.setCell ⟨g, 0, none⟩ (.slice (some ⟨gr, 0, none⟩) n1 c)) B (fun k => k ≠ g ∧ some k ≠ rowAt (w1.setCell ⟨g, 0, none⟩ (.slice (some ⟨gr, 0, none⟩) n1 c)) g) (.slice A0 (rd_T49 ms i).f0.length c0) (rd_T49 ms i).f0) := Lib.hid fun w1 n1 h1 hg1 => by
    obtain ⟨A1, n1', c1, he, hf, hc, hI, hBl, hCK⟩ := IsL.grown (w0 := w) hB hg hR h1 (HBG.out w1 hg1) hg1 (.inl (by simp [Value.ownBlock]))
    injection he with e1 e2 e3
    subst e1; subst e2; subst e3
    refine ⟨hf, hc, hI, hBl, hCK, ?_⟩
    have hgb := (hg1.block g hlt (Kd.R_ne hR hg (by decide))).trans hg
    have hr : rowAt (w1.setCell ⟨g, 0, none⟩ (.slice (some ⟨gr, 0, none⟩) n1 c)) g = some gr := rowAt_of ((blk_cell (blk_set hgb 0 _) 0).trans rfl)
    rw [hr]
    refine Kd.R_mono (Kd.R_far (p := ⟨g, 0, none⟩) (HV.out w1 hg1) (fun k hk => hk.1) _) (fun k hk => ⟨hk.1, fun e => hk.2 (Option.some.inj e)⟩)
  obtain ⟨ad, had⟩ : ∃ a : Addr, (⟨gr, 0, none⟩ : Addr) = a := ⟨_, rfl⟩
  rw [had] at x0 x1 h0 hD HGR
  obtain ⟨bs, hbs⟩ : ∃ bs, (rd_T49 ms i).f0 = bs := ⟨_, rfl⟩
  rw [hbs] at x0 HGR ⊢
  obtain ⟨ms', hms'⟩ : ∃ m, ms.eraseIdx i.toNat = m := ⟨_, rfl⟩
  rw [hms'] at hD HGR ⊢
  obtain ⟨n, hn⟩ : ∃ n, ms.length = n := ⟨_, rfl⟩
  rw [hn] at h0 h1i hD HGR hml
  obtain ⟨n1, hn1⟩ : ∃ m, n - 1 = m := ⟨_, rfl⟩
  rw [hn1] at hD
  have HD := Lib.hid hD
  have p0 : (0 ≤ i) = True := eq_true h0i
  have p1 : (i < (n : Int)) = True := eq_true h1i
  have p2 : decide (i < 0) = false := decide_eq_false (by omega)
  have p3 : wrap64 (i + 1) = i + 1 := wrap64_id (by omega) (by omega)
  clear hml hi hg hR hC xl xC hbs hn h h0i h1i hD hn1 hms' had hM hv0 hcc hcl HV HBG x1 hlt hi'
  go_enter Try.func9, Try.ntmps9
  go_wp2_with (first
    | (go_at_call 18; refine HA.out.mono ?_; clear HA; rintro e w1 ⟨rfl, rfl⟩)
    | (go_at_call 19; refine HD.out.mono ?_; clear HD; rintro e w1 ⟨rfl, hv, hgw⟩; obtain ⟨f1, y1, z1, z2, z3, z4⟩ := HGR.out w1 n1 hv hgw; have Z1 := Lib.hid z1; have Z2 := Lib.hid z2; have Z3 := Lib.hid z3; have Z4 := Lib.hid z4; clear hv hgw z1 z2 z3 z4))
  go_ret2
  exact ⟨_, rfl, Z4.out, Z1.out, Z2.out, Z3.out⟩
end Go.Proofs.Ytklillecmjooeaa.Hand
