/- A link and the document's list, side by side: what each call does to both. -/
import Derived.Test.YtklillecmjooeaaProg
import Derived.Below
import Derived.Deep.Draws
import Derived.Deep.AppendLies
import Derived.Maps.AppendAt
import Derived.OwnWalk
import Derived.Laws.BytesArg
import Derived.Laws.MakeOwn
import Derived.Laws.OwnMore
import Derived.Deep.OwnRows
import Derived.Tactics
import Derived.Lib.ConvBytes
import Derived.Laws.Slices
import Derived.WalkKit
import Derived.KernelRfl
import Derived.RowKit3
import Derived.Deep.LoopGhost
import Derived.Deep.QuietTactic
import Derived.BigQuiet
import Derived.WideLaws
import Derived.Deep.DeepCutAuto
import Derived.Deep.CutBlock
import Derived.Deep.RegionHeld3
import Derived.Laws.Rows
import Derived.Lib.AppendStr
import Derived.ArgAppend
import Derived.Laws.IdiomCopy
import Derived.OrdersHeld
import Derived.Laws.BitsLemmas
import Derived.RowKit
import Derived.StillTailTactics
import Derived.Test.YtklillecmjooeaaWWords
import Derived.Test.YtklillecmjooeaaWLast
import Derived.Test.YtklillecmjooeaaWMore
import Derived.Lib.Hide
import Derived.Outline
import Derived.Test.YtklillecmjooeaaMAlln1
import Derived.Test.YtklillecmjooeaaDouble
import Derived.Test.YtklillecmjooeaaDrop
import Derived.Test.YtklillecmjooeaaSame
import Derived.Test.YtklillecmjooeaaPlaysPlain
import Derived.Test.YtklillecmjooeaaOncePlain
namespace Go.Proofs.Ytklillecmjooeaa.Hand
open Go Go.RowKit Go.Proofs.Ytklillecmjooeaa.Plain Go.Proofs.Ytklillecmjooeaa.PAll Go.Proofs.YtklillecmjooeaaW.PrintWords Go.Proofs.YtklillecmjooeaaW.PrintLast Go.Proofs.YtklillecmjooeaaW.PrintMore
set_option linter.unusedVariables false
set_option linter.unusedSimpArgs false
/-- The document's list: its own block. -/
theorem xblock {w : World} {B : Nat} {v : Value} {xs : List S58} (h : IsX w B v xs) (k : Nat) (hk : v.ownBlock = some k) : k < w.heap.size ∧ ∃ cur, w.heap[k]? = some (.cells cur 58 (0, 0)) := by
  have hlt := Kd.R_lt h k hk
  obtain ⟨_, inner, hown, _⟩ := h
  rcases hown.2 with ⟨hv, _⟩ | ⟨g', cap', cur, hv, _, hh, _⟩
  · subst hv
    cases hk
  · subst hv
    injection hk with hk
    subst hk
    exact ⟨hlt, cur, hh⟩
theorem xflat {w : World} {B : Nat} {v : Value} {xs : List S58} (h : IsX w B v xs) : Kd.R k58 58 w B (fun k => v.ownBlock = some k) v xs := Kd.R_flat (fun h => h) h (fun k hk _ => hk)
theorem xkeep {w w' : World} {B g : Nat} {v : Value} {ms : List S49} {xs : List S58} (hl : IsL w B g ms) (hx : IsX w B v xs) (hk : CKeep w w' g) : IsX w' B v xs := by
  refine Kd.R_mono (Kd.R_step (xflat hx) fun k hok hlt => ?_) (fun _ _ => trivial)
  obtain ⟨_, cur, hb⟩ := xblock hx k hok
  obtain ⟨a1, a2⟩ := hl.apart hb (by decide) (by decide)
  exact hk.2.1 k hlt a1 a2
theorem lkeep {w w' : World} {B g : Nat} {v : Value} {ms : List S49} {xs : List S58} (hl : IsL w B g ms) (hx : IsX w B v xs) (hk : Kept w w' (fun k => v.ownBlock = some k)) : IsL w' B g ms := by
  cases ho : v.ownBlock with
  | none =>
    have hlt := hl.lt
    obtain ⟨hB, u, hg, hR⟩ := hl
    exact ⟨hB, u, (hk.2 g hlt (by rw [ho]; simp)).trans hg, Kd.R_step hR fun k _ hlt => hk.2 k hlt (by rw [ho]; simp)⟩
  | some b =>
    obtain ⟨_, cur, hb⟩ := xblock hx b ho
    obtain ⟨a1, _⟩ := hl.apart hb (by decide) (by decide)
    have hlt := hl.lt
    obtain ⟨hB, u, hg, hR⟩ := hl
    refine ⟨hB, u, (hk.2 g hlt (by rw [ho]; intro e; injection e with e; exact a1 e)).trans hg, ?_⟩
    exact Kd.R_mono (Kd.R_step (Kd.R_types hR hb (by decide)) fun k hok hlt => hk.2 k hlt (by rw [ho]; intro e; injection e with e; exact hok.2 e.symm)) (fun _ _ => trivial)
def IsS (w0 w : World) (g : Nat) (v : Value) (ml ms : List S49) : Prop := IsL w w0.heap.size g ml ∧ IsX w w0.heap.size v (ms.map toX) ∧ Below w0.heap.size w0 w
theorem IsS.below {w0 w w' : World} {g : Nat} {v : Value} {ml ms : List S49} (h : IsS w0 w g v ml ms) (hb : Below w.heap.size w w') : IsS w0 w' g v ml ms := ⟨h.1.below hb, Kd.R_below h.2.1 hb, h.2.2.trans (Below.mono hb h.2.2.size)⟩
theorem IsS.alloc {w0 w : World} {g : Nat} {v : Value} {ml ms : List S49} (h : IsS w0 w g v ml ms) (o : Obj) : IsS w0 (w.alloc o) g v ml ms := h.below (below_alloc (Below.refl _ _) o)
theorem IsS.link {w0 w w' : World} {g : Nat} {v : Value} {ml ml' ms : List S49} (h : IsS w0 w g v ml ms) (hl : IsL w' w0.heap.size g ml') (hb : Below w0.heap.size w w') (hk : CKeep w w' g) : IsS w0 w' g v ml' ms := ⟨hl, xkeep h.1 h.2.1 hk, h.2.2.trans hb⟩
theorem IsS.ref {w0 w w' : World} {g : Nat} {v v0 : Value} {ml ms ms' : List S49} {P : Nat → Prop} (h : IsS w0 w g v ml ms) (hx : Kd.R k58 58 w' w0.heap.size P v0 (ms'.map toX)) (hb : Below w0.heap.size w0 w') (hk : Kept w w' (fun k => v.ownBlock = some k)) : IsS w0 w' g v0 ml ms' := ⟨lkeep h.1 h.2.1 hk, Kd.R_mono hx (fun _ _ => trivial), hb⟩
theorem rsend {w0 w : World} {g : Nat} {v : Value} {ml ms : List S49} (h : IsS w0 w g v ml ms) (hn : ms.length ≤ 1000000) (bs : List Int) (now : Int) :
    Calls Try.prog 20 #[v, .string (strOfNums bs), .int .i64 now] w fun e w' => ∃ v0, e = .returned (.tuple #[v0, .int .i64 (sendE bs.length ms.length)]) ∧ IsS w0 w' g v0 ml (sendL ms bs now) ∧ Kept w w' (fun k => v.ownBlock = some k) := by
  refine (mastheadref27_Send.calls (fun k => v.ownBlock = some k) v _ _ _ _ _ w0 w h.2.2 (xflat h.2.1) (send_f ms bs now hn)).mono ?_
  rintro e w1 ⟨v0, rfl, h1, h2, h3⟩
  exact ⟨v0, rfl, h.ref h1 h2 h3, h3⟩
theorem rtake_some {w0 w : World} {g : Nat} {v : Value} {ml ms : List S49} (h : IsS w0 w g v ml ms) (hn : ms.length ≤ 1000000) (p : Int) (i : Nat) (hi : i < ms.length) (hat : atL p ms.length = i) :
    Calls Try.prog 21 #[v, .int .i64 p] w fun e w' => ∃ v0, e = .returned (.tuple #[v0, .string (strOfNums (rd_T49 ms i).f0), .int .i64 0]) ∧ IsS w0 w' g v0 ml (ms.eraseIdx i) ∧ Kept w w' (fun k => v.ownBlock = some k) := by
  refine (mastheadref27_Take.calls _ (fun k => v.ownBlock = some k) v _ _ _ _ _ w0 w h.2.2 (xflat h.2.1) (take_f ms p i hi hat hn)).mono ?_
  rintro e w1 ⟨v0, rfl, h1, h2, h3⟩
  exact ⟨v0, rfl, h.ref h1 h2 h3, h3⟩
theorem rtake_none {w0 w : World} {g : Nat} {v : Value} {ml : List S49} (h : IsS w0 w g v ml []) (p : Int) :
    Calls Try.prog 21 #[v, .int .i64 p] w fun e w' => ∃ v0, e = .returned (.tuple #[v0, .string ⟨#[]⟩, .int .i64 6]) ∧ IsS w0 w' g v0 ml [] ∧ Kept w w' (fun k => v.ownBlock = some k) := by
  refine (mastheadref27_Take.calls _ (fun k => v.ownBlock = some k) v _ _ _ _ _ w0 w h.2.2 (xflat h.2.1) (take_f0 p)).mono ?_
  rintro e w1 ⟨v0, rfl, h1, h2, h3⟩
  exact ⟨v0, rfl, h.ref h1 h2 h3, h3⟩
set_option maxHeartbeats 1000000 in
set_option maxRecDepth 100000 in
theorem rdouble_none {w0 w : World} {g : Nat} {v : Value} {ml : List S49} (h : IsS w0 w g v ml []) (p : Int) :
    Calls Try.prog 22 #[v, .int .i64 p] w fun e w' => e = .returned (.tuple #[v, .int .i64 6]) ∧ w = w' := by
  obtain ⟨A, c, rfl⟩ := Kd.R_slice h.2.1
  clear h
  simp only [List.map_nil, List.length_nil]
  go_enter Try.func22, Try.ntmps22
  go_wp2
  go_ret2
  exact ⟨rfl, rfl⟩
set_option maxHeartbeats 1000000 in
set_option maxRecDepth 100000 in
theorem rdouble_some {w0 w : World} {g : Nat} {v : Value} {ml ms : List S49} (h : IsS w0 w g v ml ms) (hn : ms.length ≤ 1000000) (p : Int) (i : Nat) (hi : i < ms.length) (hat : atL p ms.length = i) :
    Calls Try.prog 22 #[v, .int .i64 p] w fun e w' => ∃ v0, e = .returned (.tuple #[v0, .int .i64 (sendE (rd_T49 ms i).f0.length ms.length)]) ∧ IsS w0 w' g v0 ml (sendL ms (rd_T49 ms i).f0 (rd_T49 ms i).f1) ∧ Kept w w' (fun k => v.ownBlock = some k) := by
  have hat' := mastheadref27_At.calls p ms.length i w (by rw [at_f p ms.length (by omega) hn, hat])
  have HX := Lib.hid h.2.1
  obtain ⟨A, c, rfl⟩ := Kd.R_slice h.2.1
  obtain ⟨_, ad, rfl, hxc⟩ := xcells HX.out (by omega)
  have hc := fun nd => hxc (w.drewN nd) i (pw_below_drewN (Below.refl _ _) nd) hi
  rw [List.length_map] at *
  obtain ⟨bs, hbs⟩ : ∃ bs, (rd_T49 ms i).f0 = bs := ⟨_, rfl⟩
  obtain ⟨now, hnow⟩ : ∃ s, (rd_T49 ms i).f1 = s := ⟨_, rfl⟩
  have hs : sentOf ms i = now := hnow
  rw [hbs, hs] at hc
  rw [hbs, hnow]
  have HA := Lib.hid hat'
  have HS : Hid (∀ nd, Calls Try.prog 20 #[.slice (some ad) ms.length c, .string (strOfNums bs), .int .i64 now] ((w.drewN nd).alloc (.cells #[.string (strOfNums bs), .int .i64 now] 58)) fun e w' => ∃ v0, e = .returned (.tuple #[v0, .int .i64 (sendE bs.length ms.length)]) ∧ IsS w0 w' g v0 ml (sendL ms bs now) ∧ Kept w w' (fun k => (Value.slice (some ad) ms.length c).ownBlock = some k)) := Lib.hid fun nd => by
    have hb : Below w.heap.size w ((w.drewN nd).alloc (.cells #[.string (strOfNums bs), .int .i64 now] 58)) := below_alloc (pw_below_drewN (Below.refl _ _) nd) _
    refine (rsend (h.below hb) hn bs now).mono ?_
    rintro e w1 ⟨v0, rfl, h1, h2⟩
    exact ⟨v0, rfl, h1, (Kept.of_below hb _).then_ h2 (fun k hk => .inl hk)⟩
  obtain ⟨T, hT⟩ : ∃ T, strOfNums bs = T := ⟨_, rfl⟩
  rw [hT] at hc HS
  obtain ⟨ms', hms'⟩ : ∃ r, sendL ms bs now = r := ⟨_, rfl⟩
  obtain ⟨r, hr⟩ : ∃ r, sendE bs.length ms.length = r := ⟨_, rfl⟩
  rw [hms', hr] at HS ⊢
  obtain ⟨n, hn1⟩ : ∃ n, ms.length = n := ⟨_, rfl⟩
  rw [hn1] at HA HS hi ⊢
  have e0 : ((n : Int) = 0) = False := eq_false (by omega)
  have e1 : (n = 0) = False := eq_false (by omega)
  have e2 : (i : Int) < n := by omega
  have HC := Lib.hid hc
  clear hat hat' HX hxc hc hbs hnow hs hT hms' hr hn1 h hn
  go_enter Try.func22, Try.ntmps22
  go_wp2_with fail
  with_reducible refine HA.out.mono ?_
  rintro e w1 ⟨rfl, ⟨nd, hnd⟩⟩
  obtain ⟨x0, x1⟩ := HC.out nd
  have hs1 := HS.out nd
  rw [← hnd] at x0 x1 hs1
  have HS1 := Lib.hid hs1
  clear HA HC hs1 hnd
  go_wp2_with fail
  with_reducible refine HS1.out.mono ?_
  rintro e w1 ⟨v0, rfl, h1, h2⟩
  have H1 := Lib.hid h1
  have H2 := Lib.hid h2
  clear h1 h2 HS
  go_wp2
  go_ret2
  exact ⟨_, rfl, H1.out, H2.out⟩
end Go.Proofs.Ytklillecmjooeaa.Hand
