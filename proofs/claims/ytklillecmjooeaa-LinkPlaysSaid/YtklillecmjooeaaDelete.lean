/- slices.Delete of one message. -/
import Derived.Test.YtklillecmjooeaaProg
import Derived.Below
import Derived.Deep.Draws
import Derived.Deep.AppendLies
import Derived.Maps.AppendAt
import Derived.OwnWalk
import Derived.Laws.BytesArg
import Derived.Laws.MakeOwn
import Derived.Laws.OwnMore
import Derived.Deep.OwnRows
import Derived.Tactics
import Derived.Lib.ConvBytes
import Derived.Laws.Slices
import Derived.WalkKit
import Derived.KernelRfl
import Derived.RowKit3
import Derived.Deep.LoopGhost
import Derived.Deep.QuietTactic
import Derived.BigQuiet
import Derived.WideLaws
import Derived.Deep.DeepCutAuto
import Derived.Deep.CutBlock
import Derived.Deep.RegionHeld3
import Derived.Laws.Rows
import Derived.Lib.AppendStr
import Derived.ArgAppend
import Derived.Laws.IdiomCopy
import Derived.OrdersHeld
import Derived.Laws.BitsLemmas
import Derived.RowKit
import Derived.StillTailTactics
import Derived.Test.YtklillecmjooeaaWWords
import Derived.Test.YtklillecmjooeaaWLast
import Derived.Test.YtklillecmjooeaaWMore
import Derived.Lib.Hide
import Derived.Outline
import Derived.Deep.RegionLaw
import Derived.Deep.DrawnRows
import Derived.Test.YtklillecmjooeaaLink
import Derived.Test.YtklillecmjooeaaClear
namespace Go.Proofs.Ytklillecmjooeaa.Hand
open Go Go.RowKit Go.Proofs.Ytklillecmjooeaa.Plain Go.Proofs.Ytklillecmjooeaa.PAll Go.Proofs.YtklillecmjooeaaW.PrintWords Go.Proofs.YtklillecmjooeaaW.PrintLast Go.Proofs.YtklillecmjooeaaW.PrintMore
set_option linter.unusedVariables false
set_option linter.unusedSimpArgs false
attribute [local go_sem ↓] Go.wp_at_zero Go.wp_at_succ
theorem oneM : ∀ u ∈ (Builtin.zeroCells (Value.agg #[.slice none 0 0, .int .i64 0]).cells 1).toList, u.oneCell' = true := by
  intro u hu
  have : u = .slice none 0 0 ∨ u = .int .i64 0 := by simpa [Builtin.zeroCells, Value.cells, Array.range, List.range] using hu
  rcases this with rfl | rfl <;> rfl
theorem zeroM (w : World) : (zeroValue 49).run Try.prog w = .ok (.agg #[.slice none 0 0, .int .i64 0]) w := by rfl
theorem R_clear_m {P : Program} {α : Type} {m : Nat} (hm1 : m = 1) (d : Kd α) {W : World} (base : Nat) (t ty e : TypeId) (z : Value) (ht : P.underlying t = some (.slice e)) (hv : ∀ w, (zeroValue e).run P w = .ok z w) (hz : z.cells.size = d.sz) (h1 : ∀ u ∈ (Builtin.zeroCells z.cells 1).toList, u.oneCell' = true)
    {g n c c2 o : Nat} {xs : List α} {ok : Nat → Prop} (HO : d.R e W base ok (.slice (some ⟨g, 0, none⟩) n c) xs) (hm : n + 1 ≤ c) (ho : n * d.sz = o) :
    ∃ w1, (Builtin.clear_ #[t] ty #[.slice (some ⟨g, o, none⟩) m c2]).run P W = .ok (.tuple #[]) w1 ∧ d.R e w1 base ok (.slice (some ⟨g, 0, none⟩) n c) xs ∧ W.grownBy w1 (some g) := by
  subst hm1
  exact R_clear_run d base t ty e z ht hv hz h1 HO hm ho.symm
theorem grown_of_drew {w w1 : World} {r : Option Nat} (h : w.drew.grownBy w1 r) : w.grownBy w1 r := ⟨h.1, h.2, h.3, h.4, h.5⟩
set_option maxHeartbeats 4000000 in
set_option maxRecDepth 100000 in
theorem ldelete_calls {w : World} {B g n c k : Nat} {ms : List S49} (HO : Kd.R k49 49 w B (fun _ => True) (.slice (some ⟨g, 0, none⟩) n c) ms) (hk : k < n) (hn : n ≤ 1000000) (hBs : B ≤ w.heap.size) :
    Calls Try.prog 19 #[.slice (some ⟨g, 0, none⟩) n c, .int .i64 k, .int .i64 ((k : Int) + 1)] w fun e w' => e = .returned (.slice (some ⟨g, 0, none⟩) (n - 1) c) ∧ Kd.R k49 49 w' B (fun _ => True) (.slice (some ⟨g, 0, none⟩) (n - 1) c) (ms.eraseIdx k) ∧ w.grownBy w' (some g) := by
  have hnc := (Kd.R_reads' HO).2.1
  have p5 : (0 ≤ (k : Int) + 1) = True := eq_true (by omega)
  have H := Lib.hid HO
  have HK := Lib.hid hk
  have b1 : decide ((k : Int) < (k : Int) + 1) = true := decide_eq_true (by omega)
  have b2 : ((k : Int) == (k : Int) + 1) = false := by simp; omega
  have b3 : ((k : Int) = (k : Int) + 1) = False := eq_false (by omega)
  have p0 : (0 ≤ (k : Int)) = True := eq_true (by omega)
  have p1 : ((k : Int) ≤ (k : Int) + 1) = True := eq_true (by omega)
  have p2 : ((k : Int) + 1 ≤ (n : Int)) = True := eq_true (by omega)
  have p3 : ((n : Int) ≤ (c : Int)) = True := eq_true (by omega)
  have p4 : ((k : Int) ≤ (c : Int)) = True := eq_true (by omega)
  have HD := Lib.hid (Kd.R_below HO (below_drew (Below.refl _ w)))
  have HBD := Lib.hid (below_drew (Below.refl B w))
  have HN1 : Hid (n - (n - 1) = 1) := Lib.hid (by omega)
  clear HO
  by_cases hck : c = k + 1
  · subst hck
    go_enter Try.func19, Try.ntmps19
    go_wp2_with fail
    go_region_law (refine Kd.R_delete_step k49 (w0 := w) B (by rfl) (.tmp 22) (.tmp 25) 44 49 (by rfl) Try.underlying44 (by kernel_rfl) (by rfl) (by rfl) (by first | rfl | (rw [if_pos rfl]; done)) (by first | rfl | (have := HK.out; omega)) HD.out HK.out HBD.out hBs ?_; intro w1 h1 hb1 hg1; have H1 := Lib.hid h1; have HB1 := Lib.hid hb1; have HG1 := Lib.hid hg1; obtain ⟨w2, hcl, h2, hg2⟩ := R_clear_m (P := Try.prog) HN1.out k49 (c2 := (k + 1) - (n - 1)) B 44 0 49 (.agg #[.slice none 0 0, .int .i64 0]) Try.underlying44 zeroM (by rfl) oneM h1 (by have := HK.out; omega) (show (n - 1) * 2 = _ from rfl); have H2 := Lib.hid h2; have HG2 := Lib.hid hg2; clear h1 hb1 hg1 h2 hg2)
    all_goals ((try go_wp2); go_ret; exact ⟨rfl, H2.out, World.grownBy.trans (grown_of_drew HG1.out) HG2.out⟩)
  · have hck1 : (c = k + 1) = False := eq_false hck
    have HCK := Lib.hid hck
    clear hck
    go_enter Try.func19, Try.ntmps19
    go_wp2_with fail
    go_region_law (refine Kd.R_delete_step k49 (w0 := w) B (by rfl) (.tmp 22) (.tmp 25) 44 49 (by rfl) Try.underlying44 (by kernel_rfl) (by rfl) (by rfl) (by first | rfl | (rw [if_neg HCK.out, Option.map_some, add_at, Nat.zero_add]; rfl)) (by first | rfl | (have := HK.out; omega)) HD.out HK.out HBD.out hBs ?_; intro w1 h1 hb1 hg1; have H1 := Lib.hid h1; have HB1 := Lib.hid hb1; have HG1 := Lib.hid hg1; obtain ⟨w2, hcl, h2, hg2⟩ := R_clear_m (P := Try.prog) HN1.out k49 (c2 := c - (n - 1)) B 44 0 49 (.agg #[.slice none 0 0, .int .i64 0]) Try.underlying44 zeroM (by rfl) oneM h1 (by have := HK.out; omega) (show (n - 1) * 2 = _ from rfl); have H2 := Lib.hid h2; have HG2 := Lib.hid hg2; clear h1 hb1 hg1 h2 hg2)
    all_goals ((try go_wp2); go_ret; exact ⟨rfl, H2.out, World.grownBy.trans (grown_of_drew HG1.out) HG2.out⟩)
end Go.Proofs.Ytklillecmjooeaa.Hand
