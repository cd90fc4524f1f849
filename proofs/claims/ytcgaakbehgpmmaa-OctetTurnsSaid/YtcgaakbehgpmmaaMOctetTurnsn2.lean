/- The law OctetTurns: what the Go functions that it reaches compute, and that they do. -/
import Derived.Test.YtcgaakbehgpmmaaMOctetTurnsn0
import Derived.Test.YtcgaakbehgpmmaaMOctetTurnsn1
namespace Go.Proofs.Ytcgaakbehgpmmaa.POctetTurns
open Go.RowKit Go.Proofs.YtcgaakbehgpmmaaW.PrintWords Go.Proofs.YtcgaakbehgpmmaaW.PrintLast Go.Proofs.YtcgaakbehgpmmaaW.PrintMore
attribute [local go_sem] max2_int min2_int max_two min_two max_three min_three max_four min_four   -- for this text's walks alone
set_option linter.unusedVariables false
set_option linter.unusedSimpArgs false

/-! ### mastheadref01_Left: function 18 -/
mutual
def mastheadref01_Left.j0 : Nat → Int → Int → Int → Option (Int)
  | 0, _, _, _ => none
  | k + 1, x0, x1, x2 => mastheadref01_Left.l0 k x0 x1 x2 1 1
def mastheadref01_Left.l0 : Nat → Int → Int → Int → Int → Int → Option (Int)
  | 0, _, _, _, _, _ => none
  | k + 1, x0, x1, x2, x7, x8 => if x8 < x1 then (mastheadref01_Left.l0 k x0 x1 x2 (IntKind.u64.wrap (x7 * 2)) (wrap64 (x8 + 1))) else (mastheadref01_Left.l1 k x0 x2 x7 0)
def mastheadref01_Left.l1 : Nat → Int → Int → Int → Int → Option (Int)
  | 0, _, _, _, _ => none
  | k + 1, x0, x2, x7, x9 => if x9 < x2 then (if x7 = 0 then (none) else (mastheadref01_Left.l1 k (IntKind.u64.wrap ((IntKind.u64.wrap ((Int.tmod x0 x7) * 2)) + (IntKind.u64.wrap (Int.tdiv x0 x7)))) x2 x7 (wrap64 (x9 + 1)))) else (some x0)
end
def mastheadref01_Left.f (k : Nat) (a0 : Int) (a1 : Int) (a2 : Int) : Option (Int) := if a1 = 0 then (none) else (if (Int.tmod a2 a1) < 0 then (mastheadref01_Left.j0 k a0 a1 (wrap64 ((Int.tmod a2 a1) + a1))) else (mastheadref01_Left.j0 k a0 a1 (Int.tmod a2 a1)))
theorem mastheadref01_Left.mono_l : ∀ k, (∀ y0 y1 y2, LeO (mastheadref01_Left.j0 k y0 y1 y2) (mastheadref01_Left.j0 (k + 1) y0 y1 y2)) ∧ (∀ y0 y1 y2 y3 y4, LeO (mastheadref01_Left.l0 k y0 y1 y2 y3 y4) (mastheadref01_Left.l0 (k + 1) y0 y1 y2 y3 y4)) ∧ (∀ y0 y1 y2 y3, LeO (mastheadref01_Left.l1 k y0 y1 y2 y3) (mastheadref01_Left.l1 (k + 1) y0 y1 y2 y3))
  | 0 => ⟨fun _ _ _ r h => by simp [mastheadref01_Left.j0] at h, fun _ _ _ _ _ r h => by simp [mastheadref01_Left.l0] at h, fun _ _ _ _ r h => by simp [mastheadref01_Left.l1] at h⟩
  | k + 1 => by
    obtain ⟨ih0, ih1, ih2⟩ := mastheadref01_Left.mono_l k
    refine ⟨?_, ?_, ?_⟩
    · intro y0 y1 y2
      unfold mastheadref01_Left.j0
      repeat' first
      | (with_reducible exact ih0 _ _ _)
      | (with_reducible exact ih1 _ _ _ _ _)
      | (with_reducible exact ih2 _ _ _ _)
      | (with_reducible exact LeO.refl _)
      | (with_reducible exact LeO.none _)
      | (with_reducible refine LeO.ite ?_ ?_)
      | (with_reducible refine LeO.bind ?_ (fun _ => ?_))
      | exact ih0 _ _ _
      | exact ih1 _ _ _ _ _
      | exact ih2 _ _ _ _
      | exact LeO.none _
      | refine LeO.ite ?_ ?_
      | refine LeO.bind ?_ (fun _ => ?_)
    · intro y0 y1 y2 y3 y4
      unfold mastheadref01_Left.l0
      repeat' first
      | (with_reducible exact ih0 _ _ _)
      | (with_reducible exact ih1 _ _ _ _ _)
      | (with_reducible exact ih2 _ _ _ _)
      | (with_reducible exact LeO.refl _)
      | (with_reducible exact LeO.none _)
      | (with_reducible refine LeO.ite ?_ ?_)
      | (with_reducible refine LeO.bind ?_ (fun _ => ?_))
      | exact ih0 _ _ _
      | exact ih1 _ _ _ _ _
      | exact ih2 _ _ _ _
      | exact LeO.none _
      | refine LeO.ite ?_ ?_
      | refine LeO.bind ?_ (fun _ => ?_)
    · intro y0 y1 y2 y3
      unfold mastheadref01_Left.l1
      repeat' first
      | (with_reducible exact ih0 _ _ _)
      | (with_reducible exact ih1 _ _ _ _ _)
      | (with_reducible exact ih2 _ _ _ _)
      | (with_reducible exact LeO.refl _)
      | (with_reducible exact LeO.none _)
      | (with_reducible refine LeO.ite ?_ ?_)
      | (with_reducible refine LeO.bind ?_ (fun _ => ?_))
      | exact ih0 _ _ _
      | exact ih1 _ _ _ _ _
      | exact ih2 _ _ _ _
      | exact LeO.none _
      | refine LeO.ite ?_ ?_
      | refine LeO.bind ?_ (fun _ => ?_)
theorem mastheadref01_Left.mono : ∀ a0 a1 a2 k, LeO (mastheadref01_Left.f k a0 a1 a2) (mastheadref01_Left.f (k + 1) a0 a1 a2) := by
  intro a0 a1 a2 k
  obtain ⟨ih0, ih1, ih2⟩ := mastheadref01_Left.mono_l k
  unfold mastheadref01_Left.f
  repeat' first
      | (with_reducible exact ih0 _ _ _)
      | (with_reducible exact ih1 _ _ _ _ _)
      | (with_reducible exact ih2 _ _ _ _)
      | (with_reducible exact LeO.refl _)
      | (with_reducible exact LeO.none _)
      | (with_reducible refine LeO.ite ?_ ?_)
      | (with_reducible refine LeO.bind ?_ (fun _ => ?_))
      | exact ih0 _ _ _
      | exact ih1 _ _ _ _ _
      | exact ih2 _ _ _ _
      | exact LeO.none _
      | refine LeO.ite ?_ ?_
      | refine LeO.bind ?_ (fun _ => ?_)
set_option maxHeartbeats 8000000 in
set_option maxRecDepth 100000 in
theorem mastheadref01_Left.calls (k : Nat) (a0 : Int) (a1 : Int) (a2 : Int) (r : Int) (w : World) (h : mastheadref01_Left.f k a0 a1 a2 = some r) :
    Calls Try.prog 18 #[.int .u64 a0, .int .i64 a1, .int .i64 a2] w fun e w' => e = .returned (.int .u64 r) ∧ Drawn0 w w' := by
  have H : (if a1 = 0 then (none) else (if (Int.tmod a2 a1) < 0 then (mastheadref01_Left.j0 k a0 a1 (wrap64 ((Int.tmod a2 a1) + a1))) else (mastheadref01_Left.j0 k a0 a1 (Int.tmod a2 a1)))) = some r := h
  clear h
  by_cases c4 : a1 = 0
  · rw [if_pos c4] at H
    exact absurd H (by simp)
  · rw [if_neg c4] at H
    have c4b0 : (a1 == 0) = false := beq_eq_false_iff_ne.mpr c4
    have c4b1 : (a1 != 0) = true := bne_iff_ne.mpr c4
    have HC5 := Aside0.mk H
    clear H
    go_enter Try.func18, Try.ntmps18
    go_upto_if 15 with (fail)
    go_cut [2] (fun v2 wc => ∃ (kq : Nat) (x2_4 : Int), v2 = .int .i64 x2_4 ∧ Aside0 (mastheadref01_Left.j0 kq a0 a1 x2_4 = some r) ∧ Aside0 (kq ≤ k) ∧ Drawn0 w wc)
    case first =>
      have H := HC5.out
      clear HC5
      by_cases c6 : (Int.tmod a2 a1) < 0
      · rw [if_pos c6] at H
        have c6b0 : decide ((Int.tmod a2 a1) < 0) = true := decide_eq_true c6
        clear c6
        (first | rw [c6b0] | (simp only [i64_w, i32_w]; rw [c6b0]) | skip)
        have H' := Aside0.mk H
        clear H
        go_wp2
        go_meet
        case rel => exact ⟨_, (wrap64 ((Int.tmod a2 a1) + a1)), (by first | rfl | (simp; done) | (simp [*]; done)), H', ⟨by first | omega | exact Nat.le_refl _⟩, by repeat (first | exact Drawn0.refl _ | apply Drawn0.step)⟩
      · rw [if_neg c6] at H
        have c6b0 : decide ((Int.tmod a2 a1) < 0) = false := decide_eq_false c6
        clear c6
        (first | rw [c6b0] | (simp only [i64_w, i32_w]; rw [c6b0]) | skip)
        have H' := Aside0.mk H
        clear H
        go_wp2
        go_meet
        case rel => exact ⟨_, (Int.tmod a2 a1), (by first | rfl | (simp; done) | (simp [*]; done)), H', ⟨by first | omega | exact Nat.le_refl _⟩, by repeat (first | exact Drawn0.refl _ | apply Drawn0.step)⟩
    case rest =>
      clear HC5
      try clear c1
      try clear p2
      try clear c4
      try clear c4b0
      try clear c4b1
      try clear c6
      try clear c6b0
      try clear p6
      obtain ⟨kq, x2_4, rfl, HA, HJ4, ⟨mc4, rfl⟩⟩ := hcut
      cases kq with
      | zero => exact absurd HA.out (by simp [mastheadref01_Left.j0])
      | succ kj4 =>
        have H := HA.out
        clear HA
        simp only [mastheadref01_Left.j0] at H
        have H' := Aside0.mk H
        clear H
        go_wp2
        go_loopg [7, 8] kj4 (fun kq v7 v8 w' => ∃ (x7_2 : Int) (x8_2 : Int), v7 = .int .u64 x7_2 ∧ v8 = .int .i64 x8_2 ∧ Aside0 (mastheadref01_Left.l0 kq a0 a1 x2_4 x7_2 x8_2 = some r) ∧ Aside0 (kq ≤ kj4) ∧ Drawn0 w w')
        case atStart => exact ⟨(1), (1), (by first | rfl | (simp; done) | (simp [*]; done)), (by first | rfl | (simp; done) | (simp [*]; done)), H', ⟨Nat.le_refl _⟩, by repeat (first | exact Drawn0.refl _ | apply Drawn0.step)⟩
        case round =>
          clear H'
          try clear c1
          try clear p2
          try clear c4
          try clear c4b0
          try clear c4b1
          try clear c6
          try clear c6b0
          try clear p6
          try clear p2
          try clear p6
          obtain ⟨x7_2, x8_2, rfl, rfl, HA, HK2, ⟨m2, rfl⟩⟩ := hrel
          cases gk with
          | zero => exact absurd HA.out (by simp [mastheadref01_Left.l0])
          | succ k2 =>
            have H := HA.out
            clear HA
            simp only [mastheadref01_Left.l0] at H
            by_cases c7 : x8_2 < a1
            · rw [if_pos c7] at H
              have c7b0 : decide (x8_2 < a1) = true := decide_eq_true c7
              clear c7
              have H' := Aside0.mk H
              clear H
              go_wp2
              go_roundg k2
              case measure => have := HJ4.out; have := HK2.out; omega
              case rel => exact ⟨(IntKind.u64.wrap (x7_2 * 2)), (wrap64 (x8_2 + 1)), (by first | rfl | (simp; done) | (simp [*]; done)), (by first | rfl | (simp; done) | (simp [*]; done)), H', ⟨by have := HJ4.out; have := HK2.out; omega⟩, by repeat (first | exact Drawn0.refl _ | apply Drawn0.step)⟩
            · rw [if_neg c7] at H
              have c7b0 : decide (x8_2 < a1) = false := decide_eq_false c7
              clear c7
              have H' := Aside0.mk H
              clear H
              go_wp2
              go_loopg [0, 9] k2 (fun kq v0 v9 w' => ∃ (x0_3 : Int) (x9_3 : Int), v0 = .int .u64 x0_3 ∧ v9 = .int .i64 x9_3 ∧ Aside0 (mastheadref01_Left.l1 kq x0_3 x2_4 x7_2 x9_3 = some r) ∧ Aside0 (kq ≤ k2) ∧ Drawn0 w w')
              case atStart => exact ⟨(a0), (0), (by first | rfl | (simp; done) | (simp [*]; done)), (by first | rfl | (simp; done) | (simp [*]; done)), H', ⟨Nat.le_refl _⟩, by repeat (first | exact Drawn0.refl _ | apply Drawn0.step)⟩
              case round =>
                clear H'
                try clear c1
                try clear p2
                try clear c4
                try clear c4b0
                try clear c4b1
                try clear c6
                try clear c6b0
                try clear p6
                try clear c7
                try clear c7b0
                try clear p2
                try clear p6
                obtain ⟨x0_3, x9_3, rfl, rfl, HA, HK3, ⟨m3, rfl⟩⟩ := hrel
                cases gk with
                | zero => exact absurd HA.out (by simp [mastheadref01_Left.l1])
                | succ k3 =>
                  have H := HA.out
                  clear HA
                  simp only [mastheadref01_Left.l1] at H
                  by_cases c8 : x9_3 < x2_4
                  · rw [if_pos c8] at H
                    have c8b0 : decide (x9_3 < x2_4) = true := decide_eq_true c8
                    clear c8
                    by_cases c9 : x7_2 = 0
                    · rw [if_pos c9] at H
                      exact absurd H (by simp)
                    · rw [if_neg c9] at H
                      have c9b0 : (x7_2 == 0) = false := beq_eq_false_iff_ne.mpr c9
                      have c9b1 : (x7_2 != 0) = true := bne_iff_ne.mpr c9
                      have H' := Aside0.mk H
                      clear H
                      go_wp2
                      go_roundg k3
                      case measure => have := HJ4.out; have := HK2.out; have := HK3.out; omega
                      case rel => exact ⟨(IntKind.u64.wrap ((IntKind.u64.wrap ((Int.tmod x0_3 x7_2) * 2)) + (IntKind.u64.wrap (Int.tdiv x0_3 x7_2)))), (wrap64 (x9_3 + 1)), (by first | rfl | (simp; done) | (simp [*]; done)), (by first | rfl | (simp; done) | (simp [*]; done)), H', ⟨by have := HJ4.out; have := HK2.out; have := HK3.out; omega⟩, by repeat (first | exact Drawn0.refl _ | apply Drawn0.step)⟩
                  · rw [if_neg c8] at H
                    have c8b0 : decide (x9_3 < x2_4) = false := decide_eq_false c8
                    clear c8
                    obtain rfl := Option.some.inj H
                    go_wp2
                    go_ret
                    exact ⟨by first | rfl | (simp; done) | (simp [*]; done), by repeat (first | exact Drawn0.refl _ | apply Drawn0.step)⟩

/-! ### mastheadlaw01_OctetTurns: function 4 -/
def mastheadlaw01_OctetTurns.j0 : Nat → Int → Int → Int → Int → Int → Int → Bool → Option (Bool)
  | 0, _, _, _, _, _, _, _ => none
  | k + 1, x0, x1, x5, x6, x7, x8, x33 => if x33 = true then (some false) else ((octet_Right32.f x6 x1).bind fun t125 => (if t125 = x5 then ((octet_Left32.f x7 x1).bind fun t126 => (if t126 = x5 then ((octet_Left64.f x8 (wrap64 (64 - (Int.tmod x1 64)))).bind fun t127 => (if t127 = x0 then ((mastheadlaw01_awake.f k).bind fun t128 => (some t128)) else (some false))) else (some false))) else (some false)))
def mastheadlaw01_OctetTurns.f (k : Nat) (a0 : Int) (a1 : Int) : Option (Bool) := (octet_Left32.f ((a0) % 4294967296) a1).bind fun t120 => ((octet_Right32.f ((a0) % 4294967296) a1).bind fun t121 => ((octet_Left64.f a0 a1).bind fun t122 => ((mastheadref01_Left.f k ((a0) % 4294967296) 32 a1).bind fun t123 => (if (IntKind.u64.wrap (t120)) = t123 then ((mastheadref01_Left.f k a0 64 a1).bind fun t124 => (mastheadlaw01_OctetTurns.j0 k a0 a1 ((a0) % 4294967296) t120 t121 t122 (t122 != t124))) else (mastheadlaw01_OctetTurns.j0 k a0 a1 ((a0) % 4294967296) t120 t121 t122 true)))))
theorem mastheadlaw01_OctetTurns.mono_l : ∀ k, (∀ y0 y1 y2 y3 y4 y5 y6, LeO (mastheadlaw01_OctetTurns.j0 k y0 y1 y2 y3 y4 y5 y6) (mastheadlaw01_OctetTurns.j0 (k + 1) y0 y1 y2 y3 y4 y5 y6))
  | 0 => fun _ _ _ _ _ _ _ r h => by simp [mastheadlaw01_OctetTurns.j0] at h
  | k + 1 => by
    have ih0 := mastheadlaw01_OctetTurns.mono_l k
    · intro y0 y1 y2 y3 y4 y5 y6
      unfold mastheadlaw01_OctetTurns.j0
      repeat' first
      | (with_reducible exact ih0 _ _ _ _ _ _ _)
      | (with_reducible exact mastheadlaw01_awake.mono _)
      | (with_reducible exact mastheadref01_Left.mono _ _ _ _)
      | (with_reducible exact LeO.refl _)
      | (with_reducible exact LeO.none _)
      | (with_reducible refine LeO.ite ?_ ?_)
      | (with_reducible refine LeO.bind ?_ (fun _ => ?_))
      | exact ih0 _ _ _ _ _ _ _
      | exact mastheadlaw01_awake.mono _
      | exact mastheadref01_Left.mono _ _ _ _
      | exact LeO.none _
      | refine LeO.ite ?_ ?_
      | refine LeO.bind ?_ (fun _ => ?_)
theorem mastheadlaw01_OctetTurns.mono : ∀ a0 a1 k, LeO (mastheadlaw01_OctetTurns.f k a0 a1) (mastheadlaw01_OctetTurns.f (k + 1) a0 a1) := by
  intro a0 a1 k
  have ih0 := mastheadlaw01_OctetTurns.mono_l k
  unfold mastheadlaw01_OctetTurns.f
  repeat' first
      | (with_reducible exact ih0 _ _ _ _ _ _ _)
      | (with_reducible exact mastheadlaw01_awake.mono _)
      | (with_reducible exact mastheadref01_Left.mono _ _ _ _)
      | (with_reducible exact LeO.refl _)
      | (with_reducible exact LeO.none _)
      | (with_reducible refine LeO.ite ?_ ?_)
      | (with_reducible refine LeO.bind ?_ (fun _ => ?_))
      | exact ih0 _ _ _ _ _ _ _
      | exact mastheadlaw01_awake.mono _
      | exact mastheadref01_Left.mono _ _ _ _
      | exact LeO.none _
      | refine LeO.ite ?_ ?_
      | refine LeO.bind ?_ (fun _ => ?_)
set_option maxHeartbeats 8000000 in
set_option maxRecDepth 100000 in
theorem mastheadlaw01_OctetTurns.calls (k : Nat) (a0 : Int) (a1 : Int) (r : Bool) (w : World) (h : mastheadlaw01_OctetTurns.f k a0 a1 = some r) :
    Calls Try.prog 4 #[.int .u64 a0, .int .i64 a1] w fun e w' => e = .returned (.bool r) ∧ Below w.heap.size w w' := by
  have HB := Aside0.mk (Below.refl w.heap.size w)
  have H : ((octet_Left32.f ((a0) % 4294967296) a1).bind fun t120 => ((octet_Right32.f ((a0) % 4294967296) a1).bind fun t121 => ((octet_Left64.f a0 a1).bind fun t122 => ((mastheadref01_Left.f k ((a0) % 4294967296) 32 a1).bind fun t123 => (if (IntKind.u64.wrap (t120)) = t123 then ((mastheadref01_Left.f k a0 64 a1).bind fun t124 => (mastheadlaw01_OctetTurns.j0 k a0 a1 ((a0) % 4294967296) t120 t121 t122 (t122 != t124))) else (mastheadlaw01_OctetTurns.j0 k a0 a1 ((a0) % 4294967296) t120 t121 t122 true)))))) = some r := h
  clear h
  replace H := Option.bind_eq_some_iff.mp H
  obtain ⟨t120, A30, H⟩ := H
  replace H : ((octet_Right32.f ((a0) % 4294967296) a1).bind fun t121 => ((octet_Left64.f a0 a1).bind fun t122 => ((mastheadref01_Left.f k ((a0) % 4294967296) 32 a1).bind fun t123 => (if (IntKind.u64.wrap (t120)) = t123 then ((mastheadref01_Left.f k a0 64 a1).bind fun t124 => (mastheadlaw01_OctetTurns.j0 k a0 a1 ((a0) % 4294967296) t120 t121 t122 (t122 != t124))) else (mastheadlaw01_OctetTurns.j0 k a0 a1 ((a0) % 4294967296) t120 t121 t122 true))))) = some r := H
  have A3 := Aside0.mk A30
  clear A30
  replace H := Option.bind_eq_some_iff.mp H
  obtain ⟨t121, A40, H⟩ := H
  replace H : ((octet_Left64.f a0 a1).bind fun t122 => ((mastheadref01_Left.f k ((a0) % 4294967296) 32 a1).bind fun t123 => (if (IntKind.u64.wrap (t120)) = t123 then ((mastheadref01_Left.f k a0 64 a1).bind fun t124 => (mastheadlaw01_OctetTurns.j0 k a0 a1 ((a0) % 4294967296) t120 t121 t122 (t122 != t124))) else (mastheadlaw01_OctetTurns.j0 k a0 a1 ((a0) % 4294967296) t120 t121 t122 true)))) = some r := H
  have A4 := Aside0.mk A40
  clear A40
  replace H := Option.bind_eq_some_iff.mp H
  obtain ⟨t122, A50, H⟩ := H
  replace H : ((mastheadref01_Left.f k ((a0) % 4294967296) 32 a1).bind fun t123 => (if (IntKind.u64.wrap (t120)) = t123 then ((mastheadref01_Left.f k a0 64 a1).bind fun t124 => (mastheadlaw01_OctetTurns.j0 k a0 a1 ((a0) % 4294967296) t120 t121 t122 (t122 != t124))) else (mastheadlaw01_OctetTurns.j0 k a0 a1 ((a0) % 4294967296) t120 t121 t122 true))) = some r := H
  have A5 := Aside0.mk A50
  clear A50
  have HC6 := Aside0.mk H
  clear H
  go_enter Try.func4, Try.ntmps4
  go_upto_region 3 with (first | ((with_reducible refine gate_callee (f := 15) rfl ?_); refine goesL_ (some 13) rfl rfl Try.func15 (by kernel_rfl) rfl #[.int .u32 ((a0) % 4294967296), .int .i64 a1] rfl (by (try simp only [List.map_toArray, List.map_cons, List.map_nil]); first | done | rfl | (simp only [List.length_drop, List.length_take]; rfl)) ?_; (with_reducible refine (octet_Left32.calls ((a0) % 4294967296) a1 t120 _ A3.out).mono ?_); rintro e w' ⟨rfl, ⟨nd, rfl⟩⟩; refine ⟨_, rfl, ?_⟩) | ((with_reducible refine gate_callee (f := 16) rfl ?_); refine goesL_ (some 16) rfl rfl Try.func16 (by kernel_rfl) rfl #[.int .u32 ((a0) % 4294967296), .int .i64 a1] rfl (by (try simp only [List.map_toArray, List.map_cons, List.map_nil]); first | done | rfl | (simp only [List.length_drop, List.length_take]; rfl)) ?_; (with_reducible refine (octet_Right32.calls ((a0) % 4294967296) a1 t121 _ A4.out).mono ?_); rintro e w' ⟨rfl, ⟨nd, rfl⟩⟩; refine ⟨_, rfl, ?_⟩) | ((with_reducible refine gate_callee (f := 17) rfl ?_); refine goesL_ (some 19) rfl rfl Try.func17 (by kernel_rfl) rfl #[.int .u64 a0, .int .i64 a1] rfl (by (try simp only [List.map_toArray, List.map_cons, List.map_nil]); first | done | rfl | (simp only [List.length_drop, List.length_take]; rfl)) ?_; (with_reducible refine (octet_Left64.calls a0 a1 t122 _ A5.out).mono ?_); rintro e w' ⟨rfl, ⟨nd, rfl⟩⟩; refine ⟨_, rfl, ?_⟩))
  (try simp only [Act.put, List.setIfInBounds_toArray, List.set_cons_zero, List.set_cons_succ])
  go_cut [33] (fun v33 wc => ∃ (kq : Nat) (x33_5 : Bool), v33 = .bool x33_5 ∧ Aside0 (mastheadlaw01_OctetTurns.j0 kq a0 a1 ((a0) % 4294967296) t120 t121 t122 x33_5 = some r) ∧ Aside0 (kq ≤ k) ∧ Aside0 (Below w.heap.size w wc))
  case first =>
    have H := HC6.out
    clear HC6
    replace H := Option.bind_eq_some_iff.mp H
    obtain ⟨t123, A70, H⟩ := H
    replace H : (if (IntKind.u64.wrap (t120)) = t123 then ((mastheadref01_Left.f k a0 64 a1).bind fun t124 => (mastheadlaw01_OctetTurns.j0 k a0 a1 ((a0) % 4294967296) t120 t121 t122 (t122 != t124))) else (mastheadlaw01_OctetTurns.j0 k a0 a1 ((a0) % 4294967296) t120 t121 t122 true)) = some r := H
    have A7 := Aside0.mk A70
    clear A70
    by_cases c8 : (IntKind.u64.wrap (t120)) = t123
    · rw [if_pos c8] at H
      have c8b0 : ((IntKind.u64.wrap (t120)) == t123) = true := beq_iff_eq.mpr c8
      have c8b1 : ((IntKind.u64.wrap (t120)) != t123) = false := bne_eq_false_iff_eq.mpr c8
      clear c8
      (first | rw [c8b0] | (simp only [i64_w, i32_w]; rw [c8b0]) | skip)
      replace H := Option.bind_eq_some_iff.mp H
      obtain ⟨t124, A90, H⟩ := H
      replace H : (mastheadlaw01_OctetTurns.j0 k a0 a1 ((a0) % 4294967296) t120 t121 t122 (t122 != t124)) = some r := H
      have A9 := Aside0.mk A90
      clear A90
      have H' := Aside0.mk H
      clear H
      go_wp2_with (first | ((with_reducible refine gate_callee (f := 18) rfl ?_); refine goesL_ (some 25) rfl rfl Try.func18 (by kernel_rfl) rfl #[.int .u64 ((a0) % 4294967296), .int .i64 32, .int .i64 a1] rfl (by (try simp only [List.map_toArray, List.map_cons, List.map_nil]); first | done | rfl | (simp only [List.length_drop, List.length_take]; rfl)) ?_; (with_reducible refine (mastheadref01_Left.calls k ((a0) % 4294967296) 32 a1 t123 _ A7.out).mono ?_); rintro e w' ⟨rfl, ⟨nd, rfl⟩⟩; refine ⟨_, rfl, ?_⟩) | (go_at_call 18; (with_reducible refine (mastheadref01_Left.calls k a0 64 a1 t124 _ A9.out).mono ?_); rintro e w' ⟨rfl, ⟨nd, rfl⟩⟩))
      go_meet
      case rel => exact ⟨_, ((t122 != t124)), (by first | rfl | (simp; done) | (simp [*]; done)), H', ⟨by first | omega | exact Nat.le_refl _⟩, ⟨by repeat (first | (with_reducible first | exact HB.out | apply below_alloc | apply pw_below_drewN | apply below_drew1) | exact HB.out)⟩⟩
    · rw [if_neg c8] at H
      have c8b0 : ((IntKind.u64.wrap (t120)) == t123) = false := beq_eq_false_iff_ne.mpr c8
      have c8b1 : ((IntKind.u64.wrap (t120)) != t123) = true := bne_iff_ne.mpr c8
      (first | rw [c8b0] | (simp only [i64_w, i32_w]; rw [c8b0]) | skip)
      have H' := Aside0.mk H
      clear H
      go_wp2_with (first | ((with_reducible refine gate_callee (f := 18) rfl ?_); refine goesL_ (some 25) rfl rfl Try.func18 (by kernel_rfl) rfl #[.int .u64 ((a0) % 4294967296), .int .i64 32, .int .i64 a1] rfl (by (try simp only [List.map_toArray, List.map_cons, List.map_nil]); first | done | rfl | (simp only [List.length_drop, List.length_take]; rfl)) ?_; (with_reducible refine (mastheadref01_Left.calls k ((a0) % 4294967296) 32 a1 t123 _ A7.out).mono ?_); rintro e w' ⟨rfl, ⟨nd, rfl⟩⟩; refine ⟨_, rfl, ?_⟩))
      go_meet
      case rel => exact ⟨_, (true), (by first | rfl | (simp; done) | (simp [*]; done)), H', ⟨by first | omega | exact Nat.le_refl _⟩, ⟨by repeat (first | (with_reducible first | exact HB.out | apply below_alloc | apply pw_below_drewN | apply below_drew1) | exact HB.out)⟩⟩
  case rest =>
    clear HC6
    try clear c1
    try clear p2
    try clear c4
    try clear c8
    try clear c8b0
    try clear c8b1
    obtain ⟨kq, x33_5, rfl, HA, HJ5, HB⟩ := hcut
    cases kq with
    | zero => exact absurd HA.out (by simp [mastheadlaw01_OctetTurns.j0])
    | succ kj5 =>
      have H := HA.out
      clear HA
      simp only [mastheadlaw01_OctetTurns.j0] at H
      by_cases c10 : x33_5 = true
      · subst c10
        have H1 : (some false) = some r := by rw [if_pos rfl] at H; exact H
        clear H
        have H := H1
        clear H1
        obtain rfl := Option.some.inj H
        go_wp2
        go_ret
        exact ⟨by first | rfl | (simp [errW_none, errW_some] <;> rfl) | (simp [*, errW_none, errW_some] <;> rfl), by repeat (first | (with_reducible first | exact HB.out | apply below_alloc | apply pw_below_drewN | apply below_drew1) | exact HB.out)⟩
      · replace c10 := Bool.eq_false_iff.mpr c10
        subst c10
        have H1 : ((octet_Right32.f t120 a1).bind fun t125 => (if t125 = ((a0) % 4294967296) then ((octet_Left32.f t121 a1).bind fun t126 => (if t126 = ((a0) % 4294967296) then ((octet_Left64.f t122 (wrap64 (64 - (Int.tmod a1 64)))).bind fun t127 => (if t127 = a0 then ((mastheadlaw01_awake.f kj5).bind fun t128 => (some t128)) else (some false))) else (some false))) else (some false))) = some r := by rw [if_neg (show ¬ (false = true) by decide)] at H; exact H
        clear H
        have H := H1
        clear H1
        replace H := Option.bind_eq_some_iff.mp H
        obtain ⟨t125, A110, H⟩ := H
        replace H : (if t125 = ((a0) % 4294967296) then ((octet_Left32.f t121 a1).bind fun t126 => (if t126 = ((a0) % 4294967296) then ((octet_Left64.f t122 (wrap64 (64 - (Int.tmod a1 64)))).bind fun t127 => (if t127 = a0 then ((mastheadlaw01_awake.f kj5).bind fun t128 => (some t128)) else (some false))) else (some false))) else (some false)) = some r := H
        have A11 := Aside0.mk A110
        clear A110
        by_cases c12 : t125 = ((a0) % 4294967296)
        · rw [if_pos c12] at H
          have c12b0 : (t125 == ((a0) % 4294967296)) = true := beq_iff_eq.mpr c12
          have c12b1 : (t125 != ((a0) % 4294967296)) = false := bne_eq_false_iff_eq.mpr c12
          clear c12
          replace H := Option.bind_eq_some_iff.mp H
          obtain ⟨t126, A130, H⟩ := H
          replace H : (if t126 = ((a0) % 4294967296) then ((octet_Left64.f t122 (wrap64 (64 - (Int.tmod a1 64)))).bind fun t127 => (if t127 = a0 then ((mastheadlaw01_awake.f kj5).bind fun t128 => (some t128)) else (some false))) else (some false)) = some r := H
          have A13 := Aside0.mk A130
          clear A130
          by_cases c14 : t126 = ((a0) % 4294967296)
          · rw [if_pos c14] at H
            have c14b0 : (t126 == ((a0) % 4294967296)) = true := beq_iff_eq.mpr c14
            have c14b1 : (t126 != ((a0) % 4294967296)) = false := bne_eq_false_iff_eq.mpr c14
            clear c14
            replace H := Option.bind_eq_some_iff.mp H
            obtain ⟨t127, A150, H⟩ := H
            replace H : (if t127 = a0 then ((mastheadlaw01_awake.f kj5).bind fun t128 => (some t128)) else (some false)) = some r := H
            have A15 := Aside0.mk A150
            clear A150
            by_cases c16 : t127 = a0
            · rw [if_pos c16] at H
              have c16b0 : (t127 == a0) = true := beq_iff_eq.mpr c16
              have c16b1 : (t127 != a0) = false := bne_eq_false_iff_eq.mpr c16
              clear c16
              replace H := Option.bind_eq_some_iff.mp H
              obtain ⟨t128, A170, H⟩ := H
              replace H : (some t128) = some r := H
              have A17 := Aside0.mk A170
              clear A170
              obtain rfl := Option.some.inj H
              go_wp2_with (first | ((with_reducible refine gate_callee (f := 16) rfl ?_); refine goesL_ (some 36) rfl rfl Try.func16 (by kernel_rfl) rfl #[.int .u32 t120, .int .i64 a1] rfl (by (try simp only [List.map_toArray, List.map_cons, List.map_nil]); first | done | rfl | (simp only [List.length_drop, List.length_take]; rfl)) ?_; (with_reducible refine (octet_Right32.calls t120 a1 t125 _ A11.out).mono ?_); rintro e w' ⟨rfl, ⟨nd, rfl⟩⟩; refine ⟨_, rfl, ?_⟩) | (go_at_call 15; (with_reducible refine (octet_Left32.calls t121 a1 t126 _ A13.out).mono ?_); rintro e w' ⟨rfl, ⟨nd, rfl⟩⟩) | (go_at_call 17; (with_reducible refine (octet_Left64.calls t122 (wrap64 (64 - (Int.tmod a1 64))) t127 _ A15.out).mono ?_); rintro e w' ⟨rfl, ⟨nd, rfl⟩⟩) | (go_at_call 14; (with_reducible refine (mastheadlaw01_awake.calls kj5  t128 _ A17.out).mono ?_); rintro e w18 ⟨rfl, hb⟩; have n0_ := Aside0.mk (below_step (by repeat (first | (with_reducible first | exact HB.out | apply below_alloc | apply pw_below_drewN | apply below_drew1) | exact HB.out)) hb); clear HB; have HB := n0_; clear n0_; (try clear hb); (try clear hb2); (try clear hk); (try clear hi)))
              go_ret
              exact ⟨by first | rfl | (simp [errW_none, errW_some] <;> rfl) | (simp [*, errW_none, errW_some] <;> rfl), by repeat (first | (with_reducible first | exact HB.out | apply below_alloc | apply pw_below_drewN | apply below_drew1) | exact HB.out)⟩
            · rw [if_neg c16] at H
              have c16b0 : (t127 == a0) = false := beq_eq_false_iff_ne.mpr c16
              have c16b1 : (t127 != a0) = true := bne_iff_ne.mpr c16
              obtain rfl := Option.some.inj H
              go_wp2_with (first | ((with_reducible refine gate_callee (f := 16) rfl ?_); refine goesL_ (some 36) rfl rfl Try.func16 (by kernel_rfl) rfl #[.int .u32 t120, .int .i64 a1] rfl (by (try simp only [List.map_toArray, List.map_cons, List.map_nil]); first | done | rfl | (simp only [List.length_drop, List.length_take]; rfl)) ?_; (with_reducible refine (octet_Right32.calls t120 a1 t125 _ A11.out).mono ?_); rintro e w' ⟨rfl, ⟨nd, rfl⟩⟩; refine ⟨_, rfl, ?_⟩) | (go_at_call 15; (with_reducible refine (octet_Left32.calls t121 a1 t126 _ A13.out).mono ?_); rintro e w' ⟨rfl, ⟨nd, rfl⟩⟩) | (go_at_call 17; (with_reducible refine (octet_Left64.calls t122 (wrap64 (64 - (Int.tmod a1 64))) t127 _ A15.out).mono ?_); rintro e w' ⟨rfl, ⟨nd, rfl⟩⟩))
              go_ret
              exact ⟨by first | rfl | (simp [errW_none, errW_some] <;> rfl) | (simp [*, errW_none, errW_some] <;> rfl), by repeat (first | (with_reducible first | exact HB.out | apply below_alloc | apply pw_below_drewN | apply below_drew1) | exact HB.out)⟩
          · rw [if_neg c14] at H
            have c14b0 : (t126 == ((a0) % 4294967296)) = false := beq_eq_false_iff_ne.mpr c14
            have c14b1 : (t126 != ((a0) % 4294967296)) = true := bne_iff_ne.mpr c14
            obtain rfl := Option.some.inj H
            go_wp2_with (first | ((with_reducible refine gate_callee (f := 16) rfl ?_); refine goesL_ (some 36) rfl rfl Try.func16 (by kernel_rfl) rfl #[.int .u32 t120, .int .i64 a1] rfl (by (try simp only [List.map_toArray, List.map_cons, List.map_nil]); first | done | rfl | (simp only [List.length_drop, List.length_take]; rfl)) ?_; (with_reducible refine (octet_Right32.calls t120 a1 t125 _ A11.out).mono ?_); rintro e w' ⟨rfl, ⟨nd, rfl⟩⟩; refine ⟨_, rfl, ?_⟩) | (go_at_call 15; (with_reducible refine (octet_Left32.calls t121 a1 t126 _ A13.out).mono ?_); rintro e w' ⟨rfl, ⟨nd, rfl⟩⟩))
            go_ret
            exact ⟨by first | rfl | (simp [errW_none, errW_some] <;> rfl) | (simp [*, errW_none, errW_some] <;> rfl), by repeat (first | (with_reducible first | exact HB.out | apply below_alloc | apply pw_below_drewN | apply below_drew1) | exact HB.out)⟩
        · rw [if_neg c12] at H
          have c12b0 : (t125 == ((a0) % 4294967296)) = false := beq_eq_false_iff_ne.mpr c12
          have c12b1 : (t125 != ((a0) % 4294967296)) = true := bne_iff_ne.mpr c12
          obtain rfl := Option.some.inj H
          go_wp2_with (first | ((with_reducible refine gate_callee (f := 16) rfl ?_); refine goesL_ (some 36) rfl rfl Try.func16 (by kernel_rfl) rfl #[.int .u32 t120, .int .i64 a1] rfl (by (try simp only [List.map_toArray, List.map_cons, List.map_nil]); first | done | rfl | (simp only [List.length_drop, List.length_take]; rfl)) ?_; (with_reducible refine (octet_Right32.calls t120 a1 t125 _ A11.out).mono ?_); rintro e w' ⟨rfl, ⟨nd, rfl⟩⟩; refine ⟨_, rfl, ?_⟩))
          go_ret
          exact ⟨by first | rfl | (simp [errW_none, errW_some] <;> rfl) | (simp [*, errW_none, errW_some] <;> rfl), by repeat (first | (with_reducible first | exact HB.out | apply below_alloc | apply pw_below_drewN | apply below_drew1) | exact HB.out)⟩

/-- THE ONE PURE STATEMENT of mastheadlaw01_OctetTurns: yours. -/
def mastheadlaw01_OctetTurns.Pure : Prop := ∀ (a0 : Int) (a1 : Int), (Lit.int .u64 a0).wf = true → (Lit.int .i64 a1).wf = true → ∃ k, mastheadlaw01_OctetTurns.f k a0 a1 = some true
theorem mastheadlaw01_OctetTurns.walk (P : mastheadlaw01_OctetTurns.Pure) (a0 : Int) (a1 : Int) (w : World) (w0 : (Lit.int .u64 a0).wf = true) (w1 : (Lit.int .i64 a1).wf = true) :
    Calls Try.prog 4 #[.int .u64 a0, .int .i64 a1] w fun e w' => e = .returned (.bool true) ∧ Below w.heap.size w w' := by
  obtain ⟨k, h⟩ := P a0 a1 w0 w1
  refine (mastheadlaw01_OctetTurns.calls k a0 a1 true w h).mono ?_
  rintro e w' ⟨rfl, hd⟩
  exact ⟨rfl, hd⟩

end Go.Proofs.Ytcgaakbehgpmmaa.POctetTurns
