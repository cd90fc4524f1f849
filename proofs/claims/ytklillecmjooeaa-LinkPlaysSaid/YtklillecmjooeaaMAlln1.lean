/- The law All: what the Go functions that it reaches compute, and that they do. -/
import Derived.Test.YtklillecmjooeaaMAlln0
namespace Go.Proofs.Ytklillecmjooeaa.PAll
open Go.RowKit Go.Proofs.YtklillecmjooeaaW.PrintWords Go.Proofs.YtklillecmjooeaaW.PrintLast Go.Proofs.YtklillecmjooeaaW.PrintMore
attribute [local go_sem] max2_int min2_int max_two min_two max_three min_three max_four min_four   -- for this text's walks alone
set_option linter.unusedVariables false
set_option linter.unusedSimpArgs false

/-- A state of type 46 at block g of W; what its slices lead to came in by w0. -/
def IsS46 (w0 W : World) (g : Nat) (f0 : List (S49)) : Prop := ∃ A0 c0, W.heap[g]? = some (.cells #[.slice A0 f0.length c0] 46 (0, 0)) ∧ w0.heap.size ≤ g ∧ Kd.C k49 w0 A0 f0.length f0
theorem IsS46.grown {w0 W : World} {g : Nat} {f0 : List (S49)} {W1 : World} {row : Option Nat} (h : IsS46 w0 W g f0) (hw : W.grownBy W1 row) (hne : some g ≠ row) : IsS46 w0 W1 g f0 := by
  obtain ⟨A0, c0, hb, hg, hr0⟩ := h
  exact ⟨A0, c0, blk_grown hb hw hne, hg, hr0⟩
theorem IsS46.own_neN {w0 W : World} {g : Nat} {f0 : List (S49)} {α : Type} {d : Kd α} {e : Nat} {base : Nat} {ok : Nat → Prop} {v : Value} {xs : List α} (h : IsS46 w0 W g f0) (ho : Kd.N d e W base ok v xs) (ht : e ≠ 46) : some g ≠ v.ownBlock := by
  obtain ⟨A0, c0, hb, hg, hr0⟩ := h
  exact Kd.N_ne ho hb ht
theorem IsS46.fresh {w0 W : World} {g : Nat} {f0 : List (S49)} (h : IsS46 w0 W g f0) : ∀ k, W.heap.size ≤ k → k ≠ g := by
  obtain ⟨A0, c0, hb, hg, hr0⟩ := h
  exact Kd.freshB hb
theorem IsS46.kept {w0 W : World} {g : Nat} {f0 : List (S49)} {W1 : World} {S : Nat → Prop} (h : IsS46 w0 W g f0) (hk : Kept W W1 S) (hne : ¬ S g) : IsS46 w0 W1 g f0 := by
  obtain ⟨A0, c0, hb, hg, hr0⟩ := h
  exact ⟨A0, c0, blk_kept hb hk hne, hg, hr0⟩
theorem IsS46.below {w0 W : World} {g : Nat} {f0 : List (S49)} {W1 : World} (h : IsS46 w0 W g f0) (hw : Below W.heap.size W W1) : IsS46 w0 W1 g f0 := h.grown (grown_of_below hw none) (by simp)
theorem IsS46.alloc {w0 W : World} {g : Nat} {f0 : List (S49)} (h : IsS46 w0 W g f0) (o : Obj) : IsS46 w0 (W.alloc o) g f0 := h.below (below_alloc (Below.refl _ _) o)
theorem IsS46.drewN {w0 W : World} {g : Nat} {f0 : List (S49)} (h : IsS46 w0 W g f0) (m : Nat) : IsS46 w0 (W.drewN m) g f0 := h
theorem IsS46.drew {w0 W : World} {g : Nat} {f0 : List (S49)} (h : IsS46 w0 W g f0) : IsS46 w0 W.drew g f0 := h
theorem IsS46.at_ {w0 W : World} {g : Nat} {f0 : List (S49)} {w' : World} {m : Nat} (hq : W.drewN m = w') (h : IsS46 w0 W g f0) : IsS46 w0 w' g f0 := by subst hq; exact IsS46.drewN h m
theorem IsS46.apart {w0 W : World} {g : Nat} {f0 : List (S49)} {α : Type} {d : Kd α} {e : Nat} {base : Nat} {ok : Nat → Prop} {v : Value} {xs : List α} (h : IsS46 w0 W g f0) (ho : d.R e W base ok v xs) (ht : ∀ q, q ∈ e :: d.E → q ≠ 46) : d.R e W base (fun k => ok k ∧ k ≠ g) v xs := by
  obtain ⟨A0, c0, hb, hg, hr0⟩ := h
  exact Kd.R_types ho hb ht
theorem IsS46.own_ne {w0 W : World} {g : Nat} {f0 : List (S49)} {α : Type} {d : Kd α} {e : Nat} {base : Nat} {ok : Nat → Prop} {v : Value} {xs : List α} (h : IsS46 w0 W g f0) (ho : d.R e W base ok v xs) (ht : e ≠ 46) : some g ≠ v.ownBlock := by
  obtain ⟨A0, c0, hb, hg, hr0⟩ := h
  exact Kd.R_ne ho hb ht
theorem IsS46.apartQ {w0 W : World} {g : Nat} {f0 : List (S49)} {α : Type} {d : Kd α} {e : Nat} {base : Nat} {ok : Nat → Prop} {v : Value} {xs : List α} (h : IsS46 w0 W g f0) (ho : d.Q e W base ok v xs) (ht : ∀ q, q ∈ e :: d.E → q ≠ 46) : d.Q e W base (fun k => ok k ∧ k ≠ g) v xs := by
  obtain ⟨A0, c0, hb, hg, hr0⟩ := h
  exact Kd.Q_types ho hb ht
theorem IsS46.own_neQ {w0 W : World} {g : Nat} {f0 : List (S49)} {α : Type} {d : Kd α} {e : Nat} {base : Nat} {ok : Nat → Prop} {v : Value} {xs : List α} (h : IsS46 w0 W g f0) (ho : d.Q e W base ok v xs) (ht : e ≠ 46) : some g ≠ v.ownBlock := by
  obtain ⟨A0, c0, hb, hg, hr0⟩ := h
  exact Kd.Q_ne ho hb ht
theorem IsS46.apartS {w0 W : World} {g : Nat} {f0 : List (S49)} {α : Type} {d : Kd α} {e : Nat} {base : Nat} {ok : Nat → Prop} {v : Value} {xs : List α} (h : IsS46 w0 W g f0) (ho : d.S e W base ok v xs) (ht : ∀ q, q ∈ e :: d.E → q ≠ 46) : d.S e W base (fun k => ok k ∧ k ≠ g) v xs := by
  obtain ⟨A0, c0, hb, hg, hr0⟩ := h
  exact Kd.S_types ho hb ht
theorem IsS46.own_neS {w0 W : World} {g : Nat} {f0 : List (S49)} {α : Type} {d : Kd α} {e : Nat} {base : Nat} {ok : Nat → Prop} {v : Value} {xs : List α} (h : IsS46 w0 W g f0) (ho : d.S e W base ok v xs) (ht : e ≠ 46) : some g ≠ v.ownBlock := by
  obtain ⟨A0, c0, hb, hg, hr0⟩ := h
  exact Kd.S_ne ho hb ht
theorem IsS46.lt {w0 W : World} {g : Nat} {f0 : List (S49)} (h : IsS46 w0 W g f0) : g < W.heap.size := by
  obtain ⟨A0, c0, hb, hg, hr0⟩ := h
  exact blk_lt hb
theorem IsS46.ge {w0 W : World} {g : Nat} {f0 : List (S49)} (h : IsS46 w0 W g f0) : w0.heap.size ≤ g := by
  obtain ⟨A0, c0, hb, hg, hr0⟩ := h
  exact hg
theorem IsS46.ne_blk {w0 W : World} {g : Nat} {f0 : List (S49)} {a : Nat} {cs : Array Value} {t : TypeId} {fr : Nat × Nat} (h : IsS46 w0 W g f0) (hb2 : W.heap[a]? = some (.cells cs t fr)) (ht : t ≠ 46) : g ≠ a := by
  obtain ⟨A0, c0, hb, hg, hr0⟩ := h
  rintro rfl
  rw [hb] at hb2
  injection hb2 with hb2
  injection hb2 with _ ht2
  exact ht ht2.symm
theorem IsS46.far {w0 W : World} {g : Nat} {f0 : List (S49)} {p : Addr} (h : IsS46 w0 W g f0) (hne : g ≠ p.block) (u : Value) : IsS46 w0 (W.setCell p u) g f0 := by
  obtain ⟨A0, c0, hb, hg, hr0⟩ := h
  exact ⟨A0, c0, blk_far hb hne u, hg, hr0⟩
theorem cellS46_0 {W : World} {g : Nat} {A0 : Option Addr} {c0 : Nat} {f0 : List (S49)} (h : W.heap[g]? = some (.cells #[.slice A0 f0.length c0] 46 (0, 0))) : W.cell? ⟨g, 0, none⟩ = some (.slice A0 f0.length c0) := (blk_cell h 0).trans rfl
theorem IsS46.new (w0 W : World) (A0 : Option Addr) (c0 : Nat) (f0 : List (S49)) (hB : Below w0.heap.size w0 W) (hr0 : Kd.C k49 w0 A0 f0.length f0) : IsS46 w0 (W.alloc (.cells #[.slice A0 f0.length c0] 46)) W.heap.size f0 := ⟨A0, c0, by simpa using heap_alloc_new W _, hB.size, hr0⟩

/-! ### link_New: function 6 -/
def link_New.f  : Option ((List (S49))) := some ([] : List (S49))
set_option maxHeartbeats 8000000 in
set_option maxRecDepth 100000 in
theorem link_New.calls  (r : List (S49)) (w0 w : World) (hB : Below w0.heap.size w0 w) (h : link_New.f  = some r) :
    Calls Try.prog 6 #[] w fun e w' => ∃ g_ : Nat, e = .returned (.pointer (some ⟨g_, 0, none⟩)) ∧ IsS46 w0 w' g_ r ∧ Below w0.heap.size w0 w' ∧ Below w.heap.size w w' := by
  have hu46 := Try.underlying46
  have HBW := Aside0.mk (Below.refl w.heap.size w)
  have HW0 := Aside0.mk hB.size
  have HB := Aside0.mk hB
  clear hB
  have H : (some ([] : List (S49))) = some r := h
  clear h
  obtain rfl := Option.some.inj H
  go_enter Try.func6, Try.ntmps6
  go_wp2_with (first | ((with_reducible refine gate_dst (N := 2) rfl ?_); refine box_event ?hg (N := 2) ?hd (cs := #[.slice none 0 0]) (t := 46) ?hr ?_; (case hd => rfl); (case hg => rfl); (case hr => first | (go_simp; done) | (go_simp; rfl)); intro gb101 hg w1 hbox hb; have n0_ := Aside0.mk (below_step HBW.out hb); have n1_ := Aside0.mk (below_step (by repeat (first | (with_reducible first | exact HB.out | apply below_alloc | apply pw_below_drewN | apply below_drew1) | exact HB.out)) hb); have n2_ := Aside0.mk (hbox); have n3_ := Aside0.mk ((by rw [hg]; exact (below_size (by repeat (first | (with_reducible first | exact HBW.out | apply below_alloc | apply pw_below_drewN | apply below_drew1) | exact HBW.out))) : w.heap.size ≤ gb101)); have n4_ := Aside0.mk ((Nat.le_trans HW0.out (by rw [hg]; exact (below_size (by repeat (first | (with_reducible first | exact HBW.out | apply below_alloc | apply pw_below_drewN | apply below_drew1) | exact HBW.out))) : w.heap.size ≤ gb101) : w0.heap.size ≤ gb101)); clear HBW; clear HB; have HBW := n0_; have HB := n1_; have BK101 := n2_; have GW101 := n3_; have GE101 := n4_; clear n0_ n1_ n2_ n3_ n4_; clear hb hbox hg))
  go_ret
  exact ⟨_, rfl, (show IsS46 w0 _ gb101 ([] : List (S49)) from ⟨none, 0, by (with_reducible repeat (first | refine blk_drewN ?_ _ | refine blk_drew ?_ | refine blk_alloc ?_ _)); exact BK101.out, GE101.out, (Kd.C_nil _ _)⟩), by repeat (first | (with_reducible first | exact HB.out | apply below_alloc | apply pw_below_drewN | apply below_drew1 | refine below_set ?_ GE101.out) | exact HB.out), by repeat (first | (with_reducible first | exact HBW.out | apply below_alloc | apply pw_below_drewN | apply below_drew1 | refine below_set ?_ GW101.out) | exact HBW.out)⟩

-- NOT PRINTED: function 17 (slices_Clone_byte_byte)

-- NOT PRINTED: function 8 (link_Link_Send)

/-! ### link_Link_at: function 18 -/
def link_Link_at.f (s0_0 : List (S49)) (a1 : Int) : Option (Int) := if (s0_0.length : Int) = 0 then (some (-1)) else (some (Int.tmod (wrap64 ((Int.tmod a1 (s0_0.length : Int)) + (s0_0.length : Int))) (s0_0.length : Int)))
set_option maxHeartbeats 8000000 in
set_option maxRecDepth 100000 in
theorem link_Link_at.calls (g : Nat) (s0_0 : List (S49)) (a1 : Int) (r : Int) (w0 w : World) (hI : IsS46 w0 w g s0_0) (hB : Below w0.heap.size w0 w) (h : link_Link_at.f s0_0 a1 = some r) :
    Calls Try.prog 18 #[.pointer (some ⟨g, 0, none⟩), .int .i64 a1] w fun e w' => e = .returned (.int .i64 r) ∧ IsS46 w0 w' g s0_0 ∧ Below w0.heap.size w0 w' ∧ KeepBut w w' g none := by
  have HI0 := Aside0.mk hI
  have HK := Aside0.mk (KeepBut.refl w g none)
  have HL := Aside0.mk hB.size
  clear hI
  have HW0 := Aside0.mk hB.size
  have HB := Aside0.mk hB
  clear hB
  have H : (if (s0_0.length : Int) = 0 then (some (-1)) else (some (Int.tmod (wrap64 ((Int.tmod a1 (s0_0.length : Int)) + (s0_0.length : Int))) (s0_0.length : Int)))) = some r := h
  clear h
  by_cases c3 : (s0_0.length : Int) = 0
  · rw [if_pos c3] at H
    have c3b0 : ((s0_0.length : Int) == 0) = true := beq_iff_eq.mpr c3
    have c3b1 : ((s0_0.length : Int) != 0) = false := bne_eq_false_iff_eq.mpr c3
    clear c3
    obtain rfl := Option.some.inj H
    obtain ⟨ASz4_0, cSz4_0, HGz4, hgz4, HSz4_0⟩ := HI0.out
    have hcz4_0 := cellS46_0 HGz4
    clear HGz4 hgz4
    go_enter Try.func18, Try.ntmps18
    go_wp2
    go_ret
    exact ⟨by first | rfl | (simp [errW_none, errW_some] <;> rfl) | (simp [*, errW_none, errW_some] <;> rfl), by repeat (first | (with_reducible first | exact HI0.out | apply IsS46.alloc | apply IsS46.drewN | apply IsS46.drew) | exact HI0.out), by repeat (first | (with_reducible first | exact HB.out | apply below_alloc | apply pw_below_drewN | apply below_drew1 | refine below_set ?_ (IsS46.ge HI0.out)) | exact HB.out), by repeat (first | (with_reducible first | exact HK.out | apply KeepBut.set_ | apply keep_drewN | apply keep_drew | apply keep_alloc) | exact HK.out)⟩
  · rw [if_neg c3] at H
    have c3b0 : ((s0_0.length : Int) == 0) = false := beq_eq_false_iff_ne.mpr c3
    have c3b1 : ((s0_0.length : Int) != 0) = true := bne_iff_ne.mpr c3
    have c3b2 : ¬ (s0_0 = []) := fun h_ => c3 (by rw [h_]; rfl)
    obtain rfl := Option.some.inj H
    obtain ⟨ASz5_0, cSz5_0, HGz5, hgz5, HSz5_0⟩ := HI0.out
    have hcz5_0 := cellS46_0 HGz5
    clear HGz5 hgz5
    go_enter Try.func18, Try.ntmps18
    go_wp2
    go_ret
    exact ⟨by first | rfl | (simp [errW_none, errW_some] <;> rfl) | (simp [*, errW_none, errW_some] <;> rfl), by repeat (first | (with_reducible first | exact HI0.out | apply IsS46.alloc | apply IsS46.drewN | apply IsS46.drew) | exact HI0.out), by repeat (first | (with_reducible first | exact HB.out | apply below_alloc | apply pw_below_drewN | apply below_drew1 | refine below_set ?_ (IsS46.ge HI0.out)) | exact HB.out), by repeat (first | (with_reducible first | exact HK.out | apply KeepBut.set_ | apply keep_drewN | apply keep_drew | apply keep_alloc) | exact HK.out)⟩

-- NOT PRINTED: function 19 (link_message)

-- NOT PRINTED: function 9 (link_Link_Take)

-- NOT PRINTED: function 7 (mastheadlaw27_awake)

/-! ### mastheadlaw27_small: function 14 -/
def mastheadlaw27_small.l0 : Nat → Int → List (S29) → Int → Int → Option (Bool)
  | 0, _, _, _, _ => none
  | k + 1, x3, x6, x7, x8 => if x8 < x7 then (if 0 ≤ x8 then (if x8 < (x6.length : Int) then (mastheadlaw27_small.l0 k (wrap64 (x3 + (wrap64 (1 + (wrap64 ((((rd_T29 x6 x8).f3).length : Int) / 100)))))) x6 x7 (wrap64 (x8 + 1))) else (none)) else (none)) else (some (decide (x3 ≤ 150)))
def mastheadlaw27_small.f (k : Nat) (l0 : List (S29)) : Option (Bool) := mastheadlaw27_small.l0 k 0 l0 (l0.length : Int) 0
theorem mastheadlaw27_small.mono_l : ∀ k, (∀ y0 y1 y2 y3, LeO (mastheadlaw27_small.l0 k y0 y1 y2 y3) (mastheadlaw27_small.l0 (k + 1) y0 y1 y2 y3))
  | 0 => fun _ _ _ _ r h => by simp [mastheadlaw27_small.l0] at h
  | k + 1 => by
    have ih0 := mastheadlaw27_small.mono_l k
    · intro y0 y1 y2 y3
      unfold mastheadlaw27_small.l0
      repeat' first
      | (with_reducible exact ih0 _ _ _ _)
      | (with_reducible exact LeO.refl _)
      | (with_reducible exact LeO.none _)
      | (with_reducible refine LeO.ite ?_ ?_)
      | (with_reducible refine LeO.bind ?_ (fun _ => ?_))
      | exact ih0 _ _ _ _
      | exact LeO.none _
      | refine LeO.ite ?_ ?_
      | refine LeO.bind ?_ (fun _ => ?_)
theorem mastheadlaw27_small.mono : ∀ a0 k, LeO (mastheadlaw27_small.f k a0) (mastheadlaw27_small.f (k + 1) a0) := by
  intro a0 k
  have ih0 := mastheadlaw27_small.mono_l k
  unfold mastheadlaw27_small.f
  repeat' first
      | (with_reducible exact ih0 _ _ _ _)
      | (with_reducible exact LeO.refl _)
      | (with_reducible exact LeO.none _)
      | (with_reducible refine LeO.ite ?_ ?_)
      | (with_reducible refine LeO.bind ?_ (fun _ => ?_))
      | exact ih0 _ _ _ _
      | exact LeO.none _
      | refine LeO.ite ?_ ?_
      | refine LeO.bind ?_ (fun _ => ?_)
set_option maxHeartbeats 8000000 in
set_option maxRecDepth 100000 in
theorem mastheadlaw27_small.calls (k : Nat) (A0 : Option Addr) (c0 : Nat) (l0 : List (S29)) (r : Bool) (w : World) (hr0 : Kd.C k29 w A0 l0.length l0) (hc0 : l0.length ≤ c0) (h : mastheadlaw27_small.f k l0 = some r) :
    Calls Try.prog 14 #[.slice A0 l0.length c0] w fun e w' => e = .returned (.bool r) ∧ Below w.heap.size w w' := by
  have hu29 := Try.underlying29
  have HR0 := Aside0.mk hr0
  have HC0 := Aside0.mk hc0
  clear hr0 hc0
  have HB := Aside0.mk (Below.refl w.heap.size w)
  have H : (mastheadlaw27_small.l0 k 0 l0 (l0.length : Int) 0) = some r := h
  clear h
  have H' := Aside0.mk H
  clear H
  go_enter Try.func14, Try.ntmps14
  go_wp2
  go_loopg [3, 8] k (fun kq v3 v8 w' => ∃ (x3_1 : Int) (x8_1 : Int), v3 = .int .i64 x3_1 ∧ v8 = .int .i64 x8_1 ∧ Aside0 (mastheadlaw27_small.l0 kq x3_1 l0 (l0.length : Int) x8_1 = some r) ∧ Aside0 (kq ≤ k) ∧ Aside0 (Below w.heap.size w w'))
  case atStart => exact ⟨(0), (0), (by first | rfl | (simp; done) | (simp [*]; done)), (by first | rfl | (simp; done) | (simp [*]; done)), H', ⟨Nat.le_refl _⟩, ⟨by repeat (first | (with_reducible first | exact HB.out | apply below_alloc | apply pw_below_drewN | apply below_drew1) | exact HB.out)⟩⟩
  case round =>
    clear H'
    try clear c1
    obtain ⟨x3_1, x8_1, rfl, rfl, HA, HK1, HB⟩ := hrel
    cases gk with
    | zero => exact absurd HA.out (by simp [mastheadlaw27_small.l0])
    | succ k1 =>
      have H := HA.out
      clear HA
      simp only [mastheadlaw27_small.l0] at H
      by_cases c2 : x8_1 < (l0.length : Int)
      · rw [if_pos c2] at H
        have c2b0 : decide (x8_1 < (l0.length : Int)) = true := decide_eq_true c2
        clear c2
        by_cases c3 : 0 ≤ x8_1
        · rw [if_pos c3] at H
          have c3b0 : decide (0 ≤ x8_1) = true := decide_eq_true c3
          clear c3
          by_cases c4 : x8_1 < (l0.length : Int)
          · rw [if_pos c4] at H
            have c4b0 : decide (x8_1 < (l0.length : Int)) = true := decide_eq_true c4
            clear c4
            have H' := Aside0.mk H
            clear H
            have p106 : 0 ≤ (x8_1 : Int) := of_decide_eq_true (by first | (with_reducible assumption) | assumption)
            have q106 : x8_1 < (l0.length : Int) := of_decide_eq_true (by first | (with_reducible assumption) | assumption)
            obtain ⟨ad106, A106_3, c106_3, e106, hx106_0, hx106_1, hx106_2, hx106_3, hl106_3, hi106_3⟩ := at_T29 HR0.out x8_1 p106 q106
            cases e106
            replace hx106_0 := (HB.out.cell (World.block_lt_of_cell? w _ hx106_0)).trans hx106_0
            replace hx106_1 := (HB.out.cell (World.block_lt_of_cell? w _ hx106_1)).trans hx106_1
            replace hx106_2 := (HB.out.cell (World.block_lt_of_cell? w _ hx106_2)).trans hx106_2
            replace hx106_3 := (HB.out.cell (World.block_lt_of_cell? w _ hx106_3)).trans hx106_3
            have HR106_3 := Aside0.mk hi106_3
            have HC106_3 := Aside0.mk hl106_3
            clear hi106_3 hl106_3
            replace p106 := eq_true p106
            replace q106 := eq_true q106
            go_wp2_with (first | ((with_reducible refine gate_dst (N := 5) rfl ?_); refine box_event ?hg (N := 5) ?hd (cs := #[.int .i64 0, .int .i64 0, .int .i64 0, .slice none 0 0]) (t := 29) ?hr ?_; (case hd => rfl); (case hg => rfl); (case hr => first | (go_simp; done) | (go_simp; rfl)); intro gb107 hg w5 hbox hb; have n0_ := Aside0.mk (below_step (by repeat (first | (with_reducible first | exact HB.out | apply below_alloc | apply pw_below_drewN | apply below_drew1) | exact HB.out)) hb); have n1_ := Aside0.mk (hbox); have n2_ := Aside0.mk ((by rw [hg]; exact (below_size (by repeat (first | (with_reducible first | exact HB.out | apply below_alloc | apply pw_below_drewN | apply below_drew1) | exact HB.out))) : w.heap.size ≤ gb107)); have n3_ := Aside0.mk ((by rw [hg]; exact (below_size (by repeat (first | (with_reducible first | exact HB.out | apply below_alloc | apply pw_below_drewN | apply below_drew1) | exact HB.out))) : w.heap.size ≤ gb107)); clear HB; have HB := n0_; have BK107 := n1_; have GW107 := n2_; have GE107 := n3_; clear n0_ n1_ n2_ n3_; clear hb hbox hg; have hcz6_0 : w5.cell? ⟨gb107, 0, none⟩ = some (.int .i64 0) := (blk_cell BK107.out 0).trans rfl; have hcz6_1 : w5.cell? ⟨gb107, 1, none⟩ = some (.int .i64 0) := (blk_cell BK107.out 1).trans rfl; have hcz6_2 : w5.cell? ⟨gb107, 2, none⟩ = some (.int .i64 0) := (blk_cell BK107.out 2).trans rfl; have hcz6_3 : w5.cell? ⟨gb107, 3, none⟩ = some (.slice none 0 0) := (blk_cell BK107.out 3).trans rfl; have hfz6_0 := blk_frozen BK107.out 0; have hfz6_1 := blk_frozen BK107.out 1; have hfz6_2 := blk_frozen BK107.out 2; have hfz6_3 := blk_frozen BK107.out 3))
            go_roundg k1
            case measure => have := HK1.out; omega
            case rel => exact ⟨(wrap64 (x3_1 + (wrap64 (1 + (wrap64 ((((rd_T29 l0 x8_1).f3).length : Int) / 100)))))), (wrap64 (x8_1 + 1)), (by first | rfl | (simp; done) | (simp [*]; done)), (by first | rfl | (simp; done) | (simp [*]; done)), H', ⟨by have := HK1.out; omega⟩, ⟨by repeat (first | (with_reducible first | exact HB.out | apply below_alloc | apply pw_below_drewN | apply below_drew1 | refine below_set ?_ GE107.out) | exact HB.out)⟩⟩
          · rw [if_neg c4] at H
            exact absurd H (by simp)
        · rw [if_neg c3] at H
          exact absurd H (by simp)
      · rw [if_neg c2] at H
        have c2b0 : decide (x8_1 < (l0.length : Int)) = false := decide_eq_false c2
        clear c2
        obtain rfl := Option.some.inj H
        go_wp2
        go_ret
        exact ⟨by first | rfl | (simp [errW_none, errW_some] <;> rfl) | (simp [*, errW_none, errW_some] <;> rfl), by repeat (first | (with_reducible first | exact HB.out | apply below_alloc | apply pw_below_drewN | apply below_drew1) | exact HB.out)⟩

-- NOT PRINTED: function 10 (link_Link_Look)

-- NOT PRINTED: function 11 (link_Link_Double)

-- NOT PRINTED: function 13 (link_Link_Drop)

/-! ### mastheadref27_Send: function 20 -/
def mastheadref27_Send.f (l0 : List (S58)) (a1 : ByteArray) (a2 : Int) : Option ((List (S58)) × Int) := if (a1.size : Int) > 200000 then (some (l0, 4)) else (if (l0.length : Int) ≥ 64 then (some (l0, 8)) else (if ([] : List (S58)).length + l0.length < 5864062014805 then ((some (([] : List (S58)) ++ l0 : List (S58))).bind fun y110 => (if y110.length < 5864062014805 then (some ((y110 ++ [(⟨a1, a2⟩ : S58)]), 0)) else (none))) else (none)))
set_option maxHeartbeats 8000000 in
set_option maxRecDepth 100000 in
theorem mastheadref27_Send.calls (P0_ : Nat → Prop) (u9000_ : Value) (l0 : List (S58)) (a1 : ByteArray) (a2 : Int) (r1 : List (S58)) (r2 : Int) (w0 w : World) (hB : Below w0.heap.size w0 w) (ho0 : Kd.R k58 58 w w0.heap.size P0_ u9000_ l0) (h : mastheadref27_Send.f l0 a1 a2 = some (r1, r2)) :
    Calls Try.prog 20 #[u9000_, .string a1, .int .i64 a2] w fun e w' => ∃ v0_ : Value, e = .returned (.tuple #[v0_, .int .i64 r2]) ∧ Kd.R k58 58 w' w0.heap.size (fun k_ => (P0_ k_ ∨ w.heap.size ≤ k_)) v0_ r1 ∧ Below w0.heap.size w0 w' ∧ Kept w w' (fun k_ => P0_ k_) := by
  have hu58 := Try.underlying58
  have HO0 := Aside0.mk (show Kd.R k58 58 w w0.heap.size (fun k_ => (P0_ k_ ∨ w.heap.size ≤ k_)) u9000_ l0 from Kd.R_mono ho0 (fun k_ hk => (.inl hk)))
  have HK := Aside0.mk (Kept.refl w (fun k_ => P0_ k_))
  have HW0 := Aside0.mk hB.size
  have HB := Aside0.mk hB
  clear hB
  have H : (if (a1.size : Int) > 200000 then (some (l0, 4)) else (if (l0.length : Int) ≥ 64 then (some (l0, 8)) else (if ([] : List (S58)).length + l0.length < 5864062014805 then ((some (([] : List (S58)) ++ l0 : List (S58))).bind fun y110 => (if y110.length < 5864062014805 then (some ((y110 ++ [(⟨a1, a2⟩ : S58)]), 0)) else (none))) else (none)))) = some (r1, r2) := h
  clear h
  by_cases c4 : (a1.size : Int) > 200000
  · rw [if_pos c4] at H
    have c4b0 : decide (200000 < (a1.size : Int)) = true := decide_eq_true c4
    have c4b1 : decide (200000 < a1.size) = true := decide_eq_true (by omega)
    clear c4
    simp only [Option.some.injEq, Prod.mk.injEq] at H
    obtain ⟨rfl, rfl⟩ := H
    go_enter Try.func20, Try.ntmps20
    go_wp2
    go_ret2
    exact ⟨_, by first | rfl | (simp [errW_none, errW_some] <;> rfl) | (simp [*, errW_none, errW_some] <;> rfl), by (with_reducible repeat (first | apply Kd.R_alloc | apply Kd.R_drewN | apply Kd.R_drew)); exact HO0.out, by repeat (first | (with_reducible first | exact HB.out | apply below_alloc | apply pw_below_drewN | apply below_drew1) | exact HB.out), by repeat (first | (with_reducible first | exact HK.out | apply Kept.alloc | apply Kept.drewN | apply Kept.drew) | exact HK.out)⟩
  · rw [if_neg c4] at H
    have c4b0 : decide (200000 < (a1.size : Int)) = false := decide_eq_false c4
    have c4b1 : decide (200000 < a1.size) = false := decide_eq_false (by omega)
    clear c4
    by_cases c5 : (l0.length : Int) ≥ 64
    · rw [if_pos c5] at H
      have c5b0 : decide (64 ≤ (l0.length : Int)) = true := decide_eq_true c5
      have c5b1 : decide (64 ≤ l0.length) = true := decide_eq_true (by omega)
      clear c5
      simp only [Option.some.injEq, Prod.mk.injEq] at H
      obtain ⟨rfl, rfl⟩ := H
      obtain ⟨Ao6, co6, eo6⟩ := Kd.R_slice HO0.out
      subst eo6
      go_enter Try.func20, Try.ntmps20
      go_wp2
      go_ret2
      exact ⟨_, by first | rfl | (simp [errW_none, errW_some] <;> rfl) | (simp [*, errW_none, errW_some] <;> rfl), by (with_reducible repeat (first | apply Kd.R_alloc | apply Kd.R_drewN | apply Kd.R_drew)); exact HO0.out, by repeat (first | (with_reducible first | exact HB.out | apply below_alloc | apply pw_below_drewN | apply below_drew1) | exact HB.out), by repeat (first | (with_reducible first | exact HK.out | apply Kept.alloc | apply Kept.drewN | apply Kept.drew) | exact HK.out)⟩
    · rw [if_neg c5] at H
      have c5b0 : decide (64 ≤ (l0.length : Int)) = false := decide_eq_false c5
      have c5b1 : decide (64 ≤ l0.length) = false := decide_eq_false (by omega)
      clear c5
      by_cases c7 : ([] : List (S58)).length + l0.length < 5864062014805
      · rw [if_pos c7] at H
        have LMc7 := Aside0.mk c7
        clear c7
        obtain ⟨y110, hy110⟩ : ∃ y_ : List (S58), y_ = (([] : List (S58)) ++ l0) := ⟨_, rfl⟩
        replace H : (if y110.length < 5864062014805 then (some ((y110 ++ [(⟨a1, a2⟩ : S58)]), 0)) else (none)) = some (r1, r2) := by first | (rw [hy110]; with_reducible exact H) | (have H2_ := (Option.bind_some _ _).symm.trans H; rw [hy110]; with_reducible exact H2_) | (have H2_ := (Option.bind_some _ _).symm.trans H; with_reducible exact H2_) | with_reducible exact H | (rw [hy110]; exact H) | exact H
        have Ny110 := Aside0.mk hy110
        clear hy110
        by_cases c8 : y110.length < 5864062014805
        · rw [if_pos c8] at H
          have LMc8 := Aside0.mk c8
          clear c8
          obtain ⟨y113, hy113⟩ : ∃ y_ : List (S58), y_ = (y110 ++ [(⟨a1, a2⟩ : S58)]) := ⟨_, rfl⟩
          replace H : (some (y113, 0)) = some (r1, r2) := by first | (rw [hy113]; with_reducible exact H) | (have H2_ := (Option.bind_some _ _).symm.trans H; rw [hy113]; with_reducible exact H2_) | (have H2_ := (Option.bind_some _ _).symm.trans H; with_reducible exact H2_) | with_reducible exact H | (rw [hy113]; exact H) | exact H
          have Ny113 := Aside0.mk hy113
          clear hy113
          simp only [Option.some.injEq, Prod.mk.injEq] at H
          obtain ⟨rfl, rfl⟩ := H
          obtain ⟨Ao9, co9, eo9⟩ := Kd.R_slice HO0.out
          subst eo9
          go_enter Try.func20, Try.ntmps20
          go_wp2_with (first | ((with_reducible refine gate_builtin (b := .append) (xs := #[.tmp 17, .tmp 18]) rfl ?_); at_builtin; refine Kd.R_append_rows k58 (w0 := w0) w0.heap.size rfl (.tmp 17) (.tmp 18) 40 58 (.agg #[(.string ⟨#[]⟩), (.int .i64 0)]) 24 rfl Try.underlying40 info58 rfl (by decide) (by omega) (.slice none 0 0) ([] : List (S58)) l0 _ _ _ (fun k_ => (P0_ k_ ∨ w.heap.size ≤ k_) ∧ some k_ ≠ (.slice Ao9 l0.length co9 : Value).ownBlock) (fun _ => False) rfl rfl ?aO ?aR (fun _ _ h => h) (fun _ h => h.elim) ?aF ?aB ?aS ?aL ?_; (case aR => repeat (first | exact (Kd.R_reads' HO0.out).2.2 | (with_reducible refine Kd.C_alloc ?_ _) | (with_reducible refine Kd.C_drewN ?_ _) | (with_reducible refine Kd.C_drew ?_))); (case aB => exact (by repeat (first | (with_reducible first | exact HB.out | apply below_alloc | apply pw_below_drewN | apply below_drew1) | exact HB.out))); (case aF => exact (fun k_ hk => ⟨(.inr (Nat.le_trans (by first | exact HK.out.1 | exact (show Kept w _ (fun k_ => P0_ k_) from by repeat (first | (with_reducible first | exact HK.out | apply Kept.alloc | apply Kept.drewN | apply Kept.drew) | exact HK.out)).1) hk)), Kd.fresh' (Kd.R_lt (by (with_reducible repeat (first | apply Kd.R_alloc | apply Kd.R_drewN | apply Kd.R_drew)); exact HO0.out)) k_ hk⟩)); (case aO => exact ((Kd.R_nil _ _ _ _ (fun k_ => (P0_ k_ ∨ w.heap.size ≤ k_) ∧ some k_ ≠ (.slice Ao9 l0.length co9 : Value).ownBlock)))); (case aS => exact (below_size (by repeat (first | (with_reducible first | exact HB.out | apply below_alloc | apply pw_below_drewN | apply below_drew1) | exact HB.out)))); (case aL => have := LMc7.out; omega); intro v111 w10 ho hb hg hat; rw [← Ny110.out] at ho; have n0_ := Aside0.mk (Kd.R_after (Kd.R_apart_nil (by (with_reducible repeat (first | apply Kd.R_alloc | apply Kd.R_drewN | apply Kd.R_drew)); exact HO0.out)) hg hat); have n1_ := Aside0.mk (hb); have n2_ := Aside0.mk (Kept.of_grown (S := (fun k_ => P0_ k_)) hg (by repeat (first | (with_reducible first | exact HK.out | apply Kept.alloc | apply Kept.drewN | apply Kept.drew) | exact HK.out)) (fun k_ e_ => by simp [Value.ownBlock] at e_)); have n3_ := Aside0.mk (ho); clear HO0; clear HB; clear HK; have HO0 := n0_; have HB := n1_; have HK := n2_; have HO112 := n3_; clear n0_ n1_ n2_ n3_; clear ho hb hg hat) | ((with_reducible refine gate_builtin (b := .append) (xs := #[.tmp 20, .tmp 24]) rfl ?_); at_builtin; refine Kd.R_append k58 (w0 := w0) w0.heap.size rfl (.tmp 20) (.tmp 24) 40 58 (.agg #[(.string ⟨#[]⟩), (.int .i64 0)]) 24 rfl Try.underlying40 info58 rfl (by decide) (by omega) v111 y110 (⟨a1, a2⟩ : S58) [.string a1, .int .i64 a2] (fun k_ => (P0_ k_ ∨ w.heap.size ≤ k_) ∧ some k_ ≠ (.slice Ao9 l0.length co9 : Value).ownBlock) (fun _ => False) rfl rfl ?aP (fun _ hk => hk.elim) ?aF ?aO ?aB ?aS ?aL ?_; (case aP => exact k58_mkM _ _ _ (⟨a1, a2⟩ : S58)); (case aB => exact (by repeat (first | (with_reducible first | exact HB.out | apply below_alloc | apply pw_below_drewN | apply below_drew1) | exact HB.out))); (case aF => exact (fun k_ hk => ⟨(.inr (Nat.le_trans (by first | exact HK.out.1 | exact (show Kept w _ (fun k_ => P0_ k_) from by repeat (first | (with_reducible first | exact HK.out | apply Kept.alloc | apply Kept.drewN | apply Kept.drew) | exact HK.out)).1) hk)), Kd.fresh' (Kd.R_lt (by (with_reducible repeat (first | apply Kd.R_alloc | apply Kd.R_drewN | apply Kd.R_drew)); exact HO0.out)) k_ hk⟩)); (case aO => exact (by (with_reducible repeat (first | apply Kd.R_alloc | apply Kd.R_drewN | apply Kd.R_drew)); exact HO112.out)); (case aS => exact (below_size (by repeat (first | (with_reducible first | exact HB.out | apply below_alloc | apply pw_below_drewN | apply below_drew1) | exact HB.out)))); (case aL => have := LMc8.out; omega); intro v114 w11 ho hb hg hat; rw [← Ny113.out] at ho; have n0_ := Aside0.mk (Kd.R_after (ok := (fun k_ => (P0_ k_ ∨ w.heap.size ≤ k_))) (by (with_reducible repeat (first | apply Kd.R_alloc | apply Kd.R_drewN | apply Kd.R_drew)); exact HO0.out) hg hat); have n1_ := Aside0.mk (hb); have n2_ := Aside0.mk (Kept.of_grown (S := (fun k_ => P0_ k_)) hg (by repeat (first | (with_reducible first | exact HK.out | apply Kept.alloc | apply Kept.drewN | apply Kept.drew) | exact HK.out)) (fun k_ e_ => (HO112.out.1 k_ e_).1)); have n3_ := Aside0.mk (ho); clear HO0; clear HB; clear HK; clear HO112; have HO0 := n0_; have HB := n1_; have HK := n2_; have HO115 := n3_; clear n0_ n1_ n2_ n3_; clear ho hb hg hat))
          go_ret2
          exact ⟨_, by first | rfl | (simp [errW_none, errW_some] <;> rfl) | (simp [*, errW_none, errW_some] <;> rfl), by (with_reducible repeat (first | apply Kd.R_alloc | apply Kd.R_drewN | apply Kd.R_drew)); exact Kd.R_mono HO115.out (fun _ hk => hk.1), by repeat (first | (with_reducible first | exact HB.out | apply below_alloc | apply pw_below_drewN | apply below_drew1) | exact HB.out), by repeat (first | (with_reducible first | exact HK.out | apply Kept.alloc | apply Kept.drewN | apply Kept.drew) | exact HK.out)⟩
        · rw [if_neg c8] at H
          exact absurd H (by simp)
      · rw [if_neg c7] at H
        exact absurd H (by simp)

/-! ### mastheadref27_At: function 24 -/
def mastheadref27_At.f (a0 : Int) (a1 : Int) : Option (Int) := if a1 = 0 then (none) else (if (Int.tmod a0 a1) < 0 then (some (wrap64 ((Int.tmod a0 a1) + a1))) else (some (Int.tmod a0 a1)))
set_option maxHeartbeats 8000000 in
set_option maxRecDepth 100000 in
theorem mastheadref27_At.calls (a0 : Int) (a1 : Int) (r : Int) (w : World) (h : mastheadref27_At.f a0 a1 = some r) :
    Calls Try.prog 24 #[.int .i64 a0, .int .i64 a1] w fun e w' => e = .returned (.int .i64 r) ∧ Drawn0 w w' := by
  have H : (if a1 = 0 then (none) else (if (Int.tmod a0 a1) < 0 then (some (wrap64 ((Int.tmod a0 a1) + a1))) else (some (Int.tmod a0 a1)))) = some r := h
  clear h
  by_cases c3 : a1 = 0
  · rw [if_pos c3] at H
    exact absurd H (by simp)
  · rw [if_neg c3] at H
    have c3b0 : (a1 == 0) = false := beq_eq_false_iff_ne.mpr c3
    have c3b1 : (a1 != 0) = true := bne_iff_ne.mpr c3
    by_cases c4 : (Int.tmod a0 a1) < 0
    · rw [if_pos c4] at H
      have c4b0 : decide ((Int.tmod a0 a1) < 0) = true := decide_eq_true c4
      clear c4
      obtain rfl := Option.some.inj H
      go_enter Try.func24, Try.ntmps24
      go_wp2
      go_ret
      exact ⟨by first | rfl | (simp; done) | (simp [*]; done), by repeat (first | exact Drawn0.refl _ | apply Drawn0.step)⟩
    · rw [if_neg c4] at H
      have c4b0 : decide ((Int.tmod a0 a1) < 0) = false := decide_eq_false c4
      clear c4
      obtain rfl := Option.some.inj H
      go_enter Try.func24, Try.ntmps24
      go_wp2
      go_ret
      exact ⟨by first | rfl | (simp; done) | (simp [*]; done), by repeat (first | exact Drawn0.refl _ | apply Drawn0.step)⟩

/-! ### mastheadref27_Take: function 21 -/
def mastheadref27_Take.l0 : Nat → List (S58) → Int → List (S58) → Int → Option ((List (S58)) × ByteArray × Int)
  | 0, _, _, _, _ => none
  | k + 1, x0, x7, x8, x9 => if x9 < (x0.length : Int) then (if x9 = x7 then (mastheadref27_Take.l0 k x0 x7 x8 (wrap64 (x9 + 1))) else (if 0 ≤ x9 then (if x8.length < 5864062014805 then (mastheadref27_Take.l0 k x0 x7 (x8 ++ [(⟨(rd_T58 x0 x9).f0, (rd_T58 x0 x9).f1⟩ : S58)]) (wrap64 (x9 + 1))) else (none)) else (none))) else (if 0 ≤ x7 then (if x7 < (x0.length : Int) then (some (x8, (rd_T58 x0 x7).f0, 0)) else (none)) else (none))
def mastheadref27_Take.f (k : Nat) (l0 : List (S58)) (a1 : Int) : Option ((List (S58)) × ByteArray × Int) := if (l0.length : Int) = 0 then (some (l0, (⟨#[]⟩ : ByteArray), 6)) else ((mastheadref27_At.f a1 (l0.length : Int)).bind fun t116 => (mastheadref27_Take.l0 k l0 t116 ([] : List (S58)) 0))
theorem mastheadref27_Take.mono_l : ∀ k, (∀ y0 y1 y2 y3, LeO (mastheadref27_Take.l0 k y0 y1 y2 y3) (mastheadref27_Take.l0 (k + 1) y0 y1 y2 y3))
  | 0 => fun _ _ _ _ r h => by simp [mastheadref27_Take.l0] at h
  | k + 1 => by
    have ih0 := mastheadref27_Take.mono_l k
    · intro y0 y1 y2 y3
      unfold mastheadref27_Take.l0
      repeat' first
      | (with_reducible exact ih0 _ _ _ _)
      | (with_reducible exact LeO.refl _)
      | (with_reducible exact LeO.none _)
      | (with_reducible refine LeO.ite ?_ ?_)
      | (with_reducible refine LeO.bind ?_ (fun _ => ?_))
      | exact ih0 _ _ _ _
      | exact LeO.none _
      | refine LeO.ite ?_ ?_
      | refine LeO.bind ?_ (fun _ => ?_)
theorem mastheadref27_Take.mono : ∀ a0 a1 k, LeO (mastheadref27_Take.f k a0 a1) (mastheadref27_Take.f (k + 1) a0 a1) := by
  intro a0 a1 k
  have ih0 := mastheadref27_Take.mono_l k
  unfold mastheadref27_Take.f
  repeat' first
      | (with_reducible exact ih0 _ _ _ _)
      | (with_reducible exact LeO.refl _)
      | (with_reducible exact LeO.none _)
      | (with_reducible refine LeO.ite ?_ ?_)
      | (with_reducible refine LeO.bind ?_ (fun _ => ?_))
      | exact ih0 _ _ _ _
      | exact LeO.none _
      | refine LeO.ite ?_ ?_
      | refine LeO.bind ?_ (fun _ => ?_)
set_option maxHeartbeats 8000000 in
set_option maxRecDepth 100000 in
theorem mastheadref27_Take.calls (k : Nat) (P0_ : Nat → Prop) (u9000_ : Value) (l0 : List (S58)) (a1 : Int) (r1 : List (S58)) (r2 : ByteArray) (r3 : Int) (w0 w : World) (hB : Below w0.heap.size w0 w) (ho0 : Kd.R k58 58 w w0.heap.size P0_ u9000_ l0) (h : mastheadref27_Take.f k l0 a1 = some (r1, r2, r3)) :
    Calls Try.prog 21 #[u9000_, .int .i64 a1] w fun e w' => ∃ v0_ : Value, e = .returned (.tuple #[v0_, .string r2, .int .i64 r3]) ∧ Kd.R k58 58 w' w0.heap.size (fun k_ => (P0_ k_ ∨ w.heap.size ≤ k_)) v0_ r1 ∧ Below w0.heap.size w0 w' ∧ Kept w w' (fun k_ => P0_ k_) := by
  have hu58 := Try.underlying58
  have HO0 := Aside0.mk (show Kd.R k58 58 w w0.heap.size (fun k_ => (P0_ k_ ∨ w.heap.size ≤ k_)) u9000_ l0 from Kd.R_mono ho0 (fun k_ hk => (.inl hk)))
  have HK := Aside0.mk (Kept.refl w (fun k_ => P0_ k_))
  have HW0 := Aside0.mk hB.size
  have HB := Aside0.mk hB
  clear hB
  have H : (if (l0.length : Int) = 0 then (some (l0, (⟨#[]⟩ : ByteArray), 6)) else ((mastheadref27_At.f a1 (l0.length : Int)).bind fun t116 => (mastheadref27_Take.l0 k l0 t116 ([] : List (S58)) 0))) = some (r1, r2, r3) := h
  clear h
  by_cases c3 : (l0.length : Int) = 0
  · rw [if_pos c3] at H
    have c3b0 : ((l0.length : Int) == 0) = true := beq_iff_eq.mpr c3
    have c3b1 : ((l0.length : Int) != 0) = false := bne_eq_false_iff_eq.mpr c3
    clear c3
    simp only [Option.some.injEq, Prod.mk.injEq] at H
    obtain ⟨rfl, rfl, rfl⟩ := H
    obtain ⟨Ao4, co4, eo4⟩ := Kd.R_slice HO0.out
    subst eo4
    go_enter Try.func21, Try.ntmps21
    go_wp2
    repeat (go_quiet (fail); try go_wp2)
    go_ret3
    exact ⟨_, by first | rfl | (simp [errW_none, errW_some] <;> rfl) | (simp [*, errW_none, errW_some] <;> rfl), by (with_reducible repeat (first | apply Kd.R_alloc | apply Kd.R_drewN | apply Kd.R_drew)); exact HO0.out, by repeat (first | (with_reducible first | exact HB.out | apply below_alloc | apply pw_below_drewN | apply below_drew1) | exact HB.out), by repeat (first | (with_reducible first | exact HK.out | apply Kept.alloc | apply Kept.drewN | apply Kept.drew) | exact HK.out)⟩
  · rw [if_neg c3] at H
    have c3b0 : ((l0.length : Int) == 0) = false := beq_eq_false_iff_ne.mpr c3
    have c3b1 : ((l0.length : Int) != 0) = true := bne_iff_ne.mpr c3
    have c3b2 : ¬ (l0 = []) := fun h_ => c3 (by rw [h_]; rfl)
    replace H := Option.bind_eq_some_iff.mp H
    obtain ⟨t116, A50, H⟩ := H
    replace H : (mastheadref27_Take.l0 k l0 t116 ([] : List (S58)) 0) = some (r1, r2, r3) := H
    have A5 := Aside0.mk A50
    clear A50
    have H' := Aside0.mk H
    clear H
    obtain ⟨Ao6, co6, eo6⟩ := Kd.R_slice HO0.out
    subst eo6
    go_enter Try.func21, Try.ntmps21
    go_wp2_with (first | (go_at_call 24; (with_reducible refine (mastheadref27_At.calls a1 (l0.length : Int) t116 _ A5.out).mono ?_); rintro e w' ⟨rfl, ⟨nd, rfl⟩⟩; (try first | exact ⟨rfl, _, World.drewN_drewN _ _ _⟩ | exact ⟨rfl, _, Eq.trans (World.drewN_drewN _ _ _) (congrArg (World.drewN _) (Nat.add_assoc _ _ _))⟩)))
    repeat (go_quiet (first | (go_at_call 24; (with_reducible refine (mastheadref27_At.calls a1 (l0.length : Int) t116 _ A5.out).mono ?_); rintro e w' ⟨rfl, ⟨nd, rfl⟩⟩; (try first | exact ⟨rfl, _, World.drewN_drewN _ _ _⟩ | exact ⟨rfl, _, Eq.trans (World.drewN_drewN _ _ _) (congrArg (World.drewN _) (Nat.add_assoc _ _ _))⟩))); try go_wp2_with (first | (go_at_call 24; (with_reducible refine (mastheadref27_At.calls a1 (l0.length : Int) t116 _ A5.out).mono ?_); rintro e w' ⟨rfl, ⟨nd, rfl⟩⟩; (try first | exact ⟨rfl, _, World.drewN_drewN _ _ _⟩ | exact ⟨rfl, _, Eq.trans (World.drewN_drewN _ _ _) (congrArg (World.drewN _) (Nat.add_assoc _ _ _))⟩))))
    go_loopg [8, 9] k (fun kq v8 v9 w' => ∃ (x8_1 : List (S58)) (x9_1 : Int), v9 = .int .i64 x9_1 ∧ Aside0 (mastheadref27_Take.l0 kq l0 t116 x8_1 x9_1 = some (r1, r2, r3)) ∧ Aside0 (kq ≤ k) ∧ Aside0 (Kd.R k58 58 w' w0.heap.size (fun k_ => (P0_ k_ ∨ w.heap.size ≤ k_) ∧ some k_ ≠ (v8 : Value).ownBlock) (.slice Ao6 l0.length co6) l0) ∧ Aside0 (Kd.R k58 58 w' w0.heap.size (fun k_ => (P0_ k_ ∨ w.heap.size ≤ k_) ∧ some k_ ≠ ((.slice Ao6 l0.length co6) : Value).ownBlock) v8 x8_1) ∧ Aside0 (Kept w w' (fun k_ => P0_ k_)) ∧ Aside0 (Below w0.heap.size w0 w'))
    case atStart => exact ⟨(([] : List (S58))), (0), (by first | rfl | (simp; done) | (simp [*]; done)), H', ⟨Nat.le_refl _⟩, ⟨by (with_reducible repeat (first | apply Kd.R_alloc | apply Kd.R_drewN | apply Kd.R_drew)); exact Kd.R_mono HO0.out (fun _ hk => ⟨hk, (by simp [Value.ownBlock])⟩)⟩, ⟨by first | exact Kd.R_nil _ _ _ _ _ | exact Kd.N_nil _ _ _ _ _ | exact Kd.V_nil _ _ _ _ _ | exact Kd.Q_nil _ _ _ _ _ | exact Kd.S_nil _ _ _ _ _⟩, ⟨by repeat (first | (with_reducible first | exact HK.out | apply Kept.alloc | apply Kept.drewN | apply Kept.drew) | exact HK.out)⟩, ⟨by repeat (first | (with_reducible first | exact HB.out | apply below_alloc | apply pw_below_drewN | apply below_drew1) | exact HB.out)⟩⟩
    case round =>
      clear H'
      try clear c2
      try clear p2
      try clear c3
      try clear c3b0
      try clear c3b1
      try clear c3b2
      obtain ⟨x8_1, x9_1, rfl, HA, HK1, HO_0, HO_8, HK, HB⟩ := hrel
      cases gk with
      | zero => exact absurd HA.out (by simp [mastheadref27_Take.l0])
      | succ k1 =>
        have H := HA.out
        clear HA
        simp only [mastheadref27_Take.l0] at H
        by_cases c7 : x9_1 < (l0.length : Int)
        · rw [if_pos c7] at H
          have c7b0 : decide (x9_1 < (l0.length : Int)) = true := decide_eq_true c7
          clear c7
          by_cases c8 : x9_1 = t116
          · rw [if_pos c8] at H
            have c8b0 : (x9_1 == t116) = true := beq_iff_eq.mpr c8
            have c8b1 : (x9_1 != t116) = false := bne_eq_false_iff_eq.mpr c8
            clear c8
            have H' := Aside0.mk H
            clear H
            go_wp2
            repeat (go_quiet (fail); try go_wp2)
            go_roundg k1
            case measure => have := HK1.out; omega
            case rel => exact ⟨(x8_1), (wrap64 (x9_1 + 1)), (by first | rfl | (simp; done) | (simp [*]; done)), H', ⟨by have := HK1.out; omega⟩, ⟨by (with_reducible repeat (first | apply Kd.R_alloc | apply Kd.R_drewN | apply Kd.R_drew)); exact HO_0.out⟩, ⟨by (with_reducible repeat (first | apply Kd.R_alloc | apply Kd.R_drewN | apply Kd.R_drew)); exact HO_8.out⟩, ⟨by repeat (first | (with_reducible first | exact HK.out | apply Kept.alloc | apply Kept.drewN | apply Kept.drew) | exact HK.out)⟩, ⟨by repeat (first | (with_reducible first | exact HB.out | apply below_alloc | apply pw_below_drewN | apply below_drew1) | exact HB.out)⟩⟩
          · rw [if_neg c8] at H
            have c8b0 : (x9_1 == t116) = false := beq_eq_false_iff_ne.mpr c8
            have c8b1 : (x9_1 != t116) = true := bne_iff_ne.mpr c8
            by_cases c9 : 0 ≤ x9_1
            · rw [if_pos c9] at H
              have c9b0 : decide (0 ≤ x9_1) = true := decide_eq_true c9
              clear c9
              by_cases c10 : x8_1.length < 5864062014805
              · rw [if_pos c10] at H
                have LMc10 := Aside0.mk c10
                clear c10
                obtain ⟨y118, hy118⟩ : ∃ y_ : List (S58), y_ = (x8_1 ++ [(⟨(rd_T58 l0 x9_1).f0, (rd_T58 l0 x9_1).f1⟩ : S58)]) := ⟨_, rfl⟩
                replace H : (mastheadref27_Take.l0 k1 l0 t116 y118 (wrap64 (x9_1 + 1))) = some (r1, r2, r3) := by first | (rw [hy118]; with_reducible exact H) | (have H2_ := (Option.bind_some _ _).symm.trans H; rw [hy118]; with_reducible exact H2_) | (have H2_ := (Option.bind_some _ _).symm.trans H; with_reducible exact H2_) | with_reducible exact H | (rw [hy118]; exact H) | exact H
                have Ny118 := Aside0.mk hy118
                clear hy118
                have H' := Aside0.mk H
                clear H
                have p117 : 0 ≤ (x9_1 : Int) := of_decide_eq_true (by first | (with_reducible assumption) | assumption)
                have q117 : x9_1 < (l0.length : Int) := of_decide_eq_true (by first | (with_reducible assumption) | assumption)
                obtain ⟨ad117, e117, hx117_0, hx117_1⟩ := at_T58 (Kd.R_reads' HO_0.out).2.2 x9_1 p117 q117
                cases e117
                replace p117 := eq_true p117
                replace q117 := eq_true q117
                go_wp2_with (first | ((with_reducible refine gate_builtin (b := .append) (xs := #[.tmp 27, .tmp 32]) rfl ?_); at_builtin; refine Kd.R_append k58 (w0 := w0) w0.heap.size rfl (.tmp 27) (.tmp 32) 40 58 (.agg #[(.string ⟨#[]⟩), (.int .i64 0)]) 24 rfl Try.underlying40 info58 rfl (by decide) (by omega) u8 x8_1 (⟨(rd_T58 l0 x9_1).f0, (rd_T58 l0 x9_1).f1⟩ : S58) [.string ((rd_T58 l0 x9_1).f0), .int .i64 ((rd_T58 l0 x9_1).f1)] (fun k_ => (P0_ k_ ∨ w.heap.size ≤ k_) ∧ some k_ ≠ (.slice (some ad117) l0.length co6 : Value).ownBlock) (fun _ => False) rfl rfl ?aP (fun _ hk => hk.elim) ?aF ?aO ?aB ?aS ?aL ?_; (case aP => exact k58_mkM _ _ _ (⟨(rd_T58 l0 x9_1).f0, (rd_T58 l0 x9_1).f1⟩ : S58)); (case aB => exact (by repeat (first | (with_reducible first | exact HB.out | apply below_alloc | apply pw_below_drewN | apply below_drew1) | exact HB.out))); (case aF => exact (fun k_ hk => ⟨(.inr (Nat.le_trans (by first | exact HK.out.1 | exact (show Kept w _ (fun k_ => P0_ k_) from by repeat (first | (with_reducible first | exact HK.out | apply Kept.alloc | apply Kept.drewN | apply Kept.drew) | exact HK.out)).1) hk)), Kd.fresh' (Kd.R_lt (by (with_reducible repeat (first | apply Kd.R_alloc | apply Kd.R_drewN | apply Kd.R_drew)); exact HO_0.out)) k_ hk⟩)); (case aO => exact (by (with_reducible repeat (first | apply Kd.R_alloc | apply Kd.R_drewN | apply Kd.R_drew)); exact HO_8.out)); (case aS => exact (below_size (by repeat (first | (with_reducible first | exact HB.out | apply below_alloc | apply pw_below_drewN | apply below_drew1) | exact HB.out)))); (case aL => have := LMc10.out; omega); intro v119 w11 ho hb hg hat; rw [← Ny118.out] at ho; have n0_ := Aside0.mk (Kd.R_after (ok := (fun k_ => (P0_ k_ ∨ w.heap.size ≤ k_))) (by (with_reducible repeat (first | apply Kd.R_alloc | apply Kd.R_drewN | apply Kd.R_drew)); exact HO_0.out) hg hat); have n1_ := Aside0.mk (hb); have n2_ := Aside0.mk (Kept.of_grown (S := (fun k_ => P0_ k_)) hg (by repeat (first | (with_reducible first | exact HK.out | apply Kept.alloc | apply Kept.drewN | apply Kept.drew) | exact HK.out)) (fun k_ e_ => (HO_8.out.1 k_ e_).1)); have n3_ := Aside0.mk (ho); clear HO_0; clear HB; clear HK; clear HO_8; have HO_0 := n0_; have HB := n1_; have HK := n2_; have HO120 := n3_; clear n0_ n1_ n2_ n3_; clear ho hb hg hat))
                repeat (go_quiet (first | ((with_reducible refine gate_builtin (b := .append) (xs := #[.tmp 27, .tmp 32]) rfl ?_); at_builtin; refine Kd.R_append k58 (w0 := w0) w0.heap.size rfl (.tmp 27) (.tmp 32) 40 58 (.agg #[(.string ⟨#[]⟩), (.int .i64 0)]) 24 rfl Try.underlying40 info58 rfl (by decide) (by omega) u8 x8_1 (⟨(rd_T58 l0 x9_1).f0, (rd_T58 l0 x9_1).f1⟩ : S58) [.string ((rd_T58 l0 x9_1).f0), .int .i64 ((rd_T58 l0 x9_1).f1)] (fun k_ => (P0_ k_ ∨ w.heap.size ≤ k_) ∧ some k_ ≠ (.slice (some ad117) l0.length co6 : Value).ownBlock) (fun _ => False) rfl rfl ?aP (fun _ hk => hk.elim) ?aF ?aO ?aB ?aS ?aL ?_; (case aP => exact k58_mkM _ _ _ (⟨(rd_T58 l0 x9_1).f0, (rd_T58 l0 x9_1).f1⟩ : S58)); (case aB => exact (by repeat (first | (with_reducible first | exact HB.out | apply below_alloc | apply pw_below_drewN | apply below_drew1) | exact HB.out))); (case aF => exact (fun k_ hk => ⟨(.inr (Nat.le_trans (by first | exact HK.out.1 | exact (show Kept w _ (fun k_ => P0_ k_) from by repeat (first | (with_reducible first | exact HK.out | apply Kept.alloc | apply Kept.drewN | apply Kept.drew) | exact HK.out)).1) hk)), Kd.fresh' (Kd.R_lt (by (with_reducible repeat (first | apply Kd.R_alloc | apply Kd.R_drewN | apply Kd.R_drew)); exact HO_0.out)) k_ hk⟩)); (case aO => exact (by (with_reducible repeat (first | apply Kd.R_alloc | apply Kd.R_drewN | apply Kd.R_drew)); exact HO_8.out)); (case aS => exact (below_size (by repeat (first | (with_reducible first | exact HB.out | apply below_alloc | apply pw_below_drewN | apply below_drew1) | exact HB.out)))); (case aL => have := LMc10.out; omega); intro v119 w11 ho hb hg hat; rw [← Ny118.out] at ho; have n0_ := Aside0.mk (Kd.R_after (ok := (fun k_ => (P0_ k_ ∨ w.heap.size ≤ k_))) (by (with_reducible repeat (first | apply Kd.R_alloc | apply Kd.R_drewN | apply Kd.R_drew)); exact HO_0.out) hg hat); have n1_ := Aside0.mk (hb); have n2_ := Aside0.mk (Kept.of_grown (S := (fun k_ => P0_ k_)) hg (by repeat (first | (with_reducible first | exact HK.out | apply Kept.alloc | apply Kept.drewN | apply Kept.drew) | exact HK.out)) (fun k_ e_ => (HO_8.out.1 k_ e_).1)); have n3_ := Aside0.mk (ho); clear HO_0; clear HB; clear HK; clear HO_8; have HO_0 := n0_; have HB := n1_; have HK := n2_; have HO120 := n3_; clear n0_ n1_ n2_ n3_; clear ho hb hg hat)); try go_wp2_with (first | ((with_reducible refine gate_builtin (b := .append) (xs := #[.tmp 27, .tmp 32]) rfl ?_); at_builtin; refine Kd.R_append k58 (w0 := w0) w0.heap.size rfl (.tmp 27) (.tmp 32) 40 58 (.agg #[(.string ⟨#[]⟩), (.int .i64 0)]) 24 rfl Try.underlying40 info58 rfl (by decide) (by omega) u8 x8_1 (⟨(rd_T58 l0 x9_1).f0, (rd_T58 l0 x9_1).f1⟩ : S58) [.string ((rd_T58 l0 x9_1).f0), .int .i64 ((rd_T58 l0 x9_1).f1)] (fun k_ => (P0_ k_ ∨ w.heap.size ≤ k_) ∧ some k_ ≠ (.slice (some ad117) l0.length co6 : Value).ownBlock) (fun _ => False) rfl rfl ?aP (fun _ hk => hk.elim) ?aF ?aO ?aB ?aS ?aL ?_; (case aP => exact k58_mkM _ _ _ (⟨(rd_T58 l0 x9_1).f0, (rd_T58 l0 x9_1).f1⟩ : S58)); (case aB => exact (by repeat (first | (with_reducible first | exact HB.out | apply below_alloc | apply pw_below_drewN | apply below_drew1) | exact HB.out))); (case aF => exact (fun k_ hk => ⟨(.inr (Nat.le_trans (by first | exact HK.out.1 | exact (show Kept w _ (fun k_ => P0_ k_) from by repeat (first | (with_reducible first | exact HK.out | apply Kept.alloc | apply Kept.drewN | apply Kept.drew) | exact HK.out)).1) hk)), Kd.fresh' (Kd.R_lt (by (with_reducible repeat (first | apply Kd.R_alloc | apply Kd.R_drewN | apply Kd.R_drew)); exact HO_0.out)) k_ hk⟩)); (case aO => exact (by (with_reducible repeat (first | apply Kd.R_alloc | apply Kd.R_drewN | apply Kd.R_drew)); exact HO_8.out)); (case aS => exact (below_size (by repeat (first | (with_reducible first | exact HB.out | apply below_alloc | apply pw_below_drewN | apply below_drew1) | exact HB.out)))); (case aL => have := LMc10.out; omega); intro v119 w11 ho hb hg hat; rw [← Ny118.out] at ho; have n0_ := Aside0.mk (Kd.R_after (ok := (fun k_ => (P0_ k_ ∨ w.heap.size ≤ k_))) (by (with_reducible repeat (first | apply Kd.R_alloc | apply Kd.R_drewN | apply Kd.R_drew)); exact HO_0.out) hg hat); have n1_ := Aside0.mk (hb); have n2_ := Aside0.mk (Kept.of_grown (S := (fun k_ => P0_ k_)) hg (by repeat (first | (with_reducible first | exact HK.out | apply Kept.alloc | apply Kept.drewN | apply Kept.drew) | exact HK.out)) (fun k_ e_ => (HO_8.out.1 k_ e_).1)); have n3_ := Aside0.mk (ho); clear HO_0; clear HB; clear HK; clear HO_8; have HO_0 := n0_; have HB := n1_; have HK := n2_; have HO120 := n3_; clear n0_ n1_ n2_ n3_; clear ho hb hg hat)))
                go_roundg k1
                case measure => have := HK1.out; omega
                case rel => exact ⟨(y118), (wrap64 (x9_1 + 1)), (by first | rfl | (simp; done) | (simp [*]; done)), H', ⟨by have := HK1.out; omega⟩, ⟨by (with_reducible repeat (first | apply Kd.R_alloc | apply Kd.R_drewN | apply Kd.R_drew)); exact HO_0.out⟩, ⟨by (with_reducible repeat (first | apply Kd.R_alloc | apply Kd.R_drewN | apply Kd.R_drew)); exact HO120.out⟩, ⟨by repeat (first | (with_reducible first | exact HK.out | apply Kept.alloc | apply Kept.drewN | apply Kept.drew) | exact HK.out)⟩, ⟨by repeat (first | (with_reducible first | exact HB.out | apply below_alloc | apply pw_below_drewN | apply below_drew1) | exact HB.out)⟩⟩
              · rw [if_neg c10] at H
                exact absurd H (by simp)
            · rw [if_neg c9] at H
              exact absurd H (by simp)
        · rw [if_neg c7] at H
          have c7b0 : decide (x9_1 < (l0.length : Int)) = false := decide_eq_false c7
          clear c7
          by_cases c12 : 0 ≤ t116
          · rw [if_pos c12] at H
            have c12b0 : decide (0 ≤ t116) = true := decide_eq_true c12
            clear c12
            by_cases c13 : t116 < (l0.length : Int)
            · rw [if_pos c13] at H
              have c13b0 : decide (t116 < (l0.length : Int)) = true := decide_eq_true c13
              clear c13
              simp only [Option.some.injEq, Prod.mk.injEq] at H
              obtain ⟨rfl, rfl, rfl⟩ := H
              have p121 : 0 ≤ (t116 : Int) := of_decide_eq_true (by first | (with_reducible assumption) | assumption)
              have q121 : t116 < (l0.length : Int) := of_decide_eq_true (by first | (with_reducible assumption) | assumption)
              obtain ⟨ad121, e121, hx121_0, hx121_1⟩ := at_T58 (Kd.R_reads' HO_0.out).2.2 t116 p121 q121
              cases e121
              replace p121 := eq_true p121
              replace q121 := eq_true q121
              go_wp2
              repeat (go_quiet (fail); try go_wp2)
              go_ret3
              exact ⟨_, by first | rfl | (simp [errW_none, errW_some] <;> rfl) | (simp [*, errW_none, errW_some] <;> rfl), by (with_reducible repeat (first | apply Kd.R_alloc | apply Kd.R_drewN | apply Kd.R_drew)); exact Kd.R_mono HO_8.out (fun _ hk => hk.1), by repeat (first | (with_reducible first | exact HB.out | apply below_alloc | apply pw_below_drewN | apply below_drew1) | exact HB.out), by repeat (first | (with_reducible first | exact HK.out | apply Kept.alloc | apply Kept.drewN | apply Kept.drew) | exact HK.out)⟩
            · rw [if_neg c13] at H
              exact absurd H (by simp)
          · rw [if_neg c12] at H
            exact absurd H (by simp)

/-! ### link_Link_Len: function 12 -/
def link_Link_Len.f (s0_0 : List (S49)) : Option (Int) := some (s0_0.length : Int)
set_option maxHeartbeats 8000000 in
set_option maxRecDepth 100000 in
theorem link_Link_Len.calls (g : Nat) (s0_0 : List (S49)) (r : Int) (w0 w : World) (hI : IsS46 w0 w g s0_0) (hB : Below w0.heap.size w0 w) (h : link_Link_Len.f s0_0 = some r) :
    Calls Try.prog 12 #[.pointer (some ⟨g, 0, none⟩)] w fun e w' => e = .returned (.int .i64 r) ∧ IsS46 w0 w' g s0_0 ∧ Below w0.heap.size w0 w' ∧ KeepBut w w' g none := by
  have HI0 := Aside0.mk hI
  have HK := Aside0.mk (KeepBut.refl w g none)
  have HL := Aside0.mk hB.size
  clear hI
  have HW0 := Aside0.mk hB.size
  have HB := Aside0.mk hB
  clear hB
  have H : (some (s0_0.length : Int)) = some r := h
  clear h
  obtain rfl := Option.some.inj H
  obtain ⟨ASz2_0, cSz2_0, HGz2, hgz2, HSz2_0⟩ := HI0.out
  have hcz2_0 := cellS46_0 HGz2
  clear HGz2 hgz2
  go_enter Try.func12, Try.ntmps12
  go_wp2
  go_ret
  exact ⟨by first | rfl | (simp [errW_none, errW_some] <;> rfl) | (simp [*, errW_none, errW_some] <;> rfl), by repeat (first | (with_reducible first | exact HI0.out | apply IsS46.alloc | apply IsS46.drewN | apply IsS46.drew) | exact HI0.out), by repeat (first | (with_reducible first | exact HB.out | apply below_alloc | apply pw_below_drewN | apply below_drew1 | refine below_set ?_ (IsS46.ge HI0.out)) | exact HB.out), by repeat (first | (with_reducible first | exact HK.out | apply KeepBut.set_ | apply keep_drewN | apply keep_drew | apply keep_alloc) | exact HK.out)⟩

-- NOT PRINTED: function 23 (link_Link_Oldest)

-- NOT PRINTED: function 16 (mastheadlaw27_Same)

-- NOT PRINTED: function 5 (mastheadlaw27_LinkPlays)

-- NOT PRINTED: function 4 (mastheadlaw27_LinkFull)

-- NOT PRINTED: function 3 (mastheadlaw27_LinkOnce)

end Go.Proofs.Ytklillecmjooeaa.PAll
