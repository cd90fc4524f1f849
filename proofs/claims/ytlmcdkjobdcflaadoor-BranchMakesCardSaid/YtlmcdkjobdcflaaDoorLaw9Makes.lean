/- The law BranchMakes: walked. -/
import Derived.Test.YtlmcdkjobdcflaaDoorProg
import Derived.Below
import Derived.Deep.Draws
import Derived.Deep.AppendLies
import Derived.Maps.AppendAt
import Derived.OwnWalk
import Derived.Laws.BytesArg
import Derived.Laws.MakeOwn
import Derived.Laws.OwnMore
import Derived.Deep.OwnRows
import Derived.Tactics
import Derived.Lib.ConvBytes
import Derived.Laws.Slices
import Derived.WalkKit
import Derived.KernelRfl
import Derived.RowKit3
import Derived.Deep.LoopGhost
import Derived.Deep.QuietTactic
import Derived.BigQuiet
import Derived.WideLaws
import Derived.Deep.DeepCutAuto
import Derived.Deep.CutBlock
import Derived.Deep.RegionHeld3
import Derived.Laws.Rows
import Derived.Lib.AppendStr
import Derived.ArgAppend
import Derived.Laws.IdiomCopy
import Derived.OrdersHeld
import Derived.Laws.BitsLemmas
import Derived.RowKit
import Derived.StillTailTactics
import Derived.Test.YtlmcdkjobdcflaaDoorWWords
import Derived.Test.YtlmcdkjobdcflaaDoorWLast
import Derived.Test.YtlmcdkjobdcflaaDoorWMore
import Derived.Lib.Hide
import Derived.Outline
import Derived.Deep.MidRow
import Derived.Deep.WholeRow
import Derived.Deep.DrawnRows
import Derived.Test.YtlmcdkjobdcflaaDoorRefMake
namespace Go.Proofs.YtlmcdkjobdcflaaDoor.Hand
open Go Go.RowKit Go.Proofs.YtlmcdkjobdcflaaDoor.Plain Go.Proofs.YtlmcdkjobdcflaaDoor.PAll Go.Proofs.YtlmcdkjobdcflaaDoorW.PrintWords Go.Proofs.YtlmcdkjobdcflaaDoorW.PrintLast Go.Proofs.YtlmcdkjobdcflaaDoorW.PrintMore
set_option linter.unusedVariables false
set_option linter.unusedSimpArgs false
set_option maxRecDepth 100000
attribute [local go_sem ↓] Go.wp_at_zero Go.wp_at_succ
attribute [-go_sem] loadVar storeVar Instr.buildSlice
theorem next_count {d k : Nat} (h : k < d) : d + 1 - (intOf (.int .i64 ((k + 1 : Nat) : Int))).toNat < d + 1 - (intOf (.int .i64 (k : Int))).toNat := by
  simp only [intOf]
  omega
set_option maxHeartbeats 8000000 in
theorem makes9_calls (A : Option Addr) (n c : Nat) (xs : List (List Int)) (i : Int) (w : World) (hn : n = xs.length) (hr : Kd.C kH w A n xs) (hc : n ≤ c) (hH : Hs xs) (hK : KT w) :
    Calls Tryd.prog 9 #[.slice A n c, .int .i64 i] w fun e w' => e = .returned (.bool true) ∧ Below w.heap.size w w' := by
  have hm := Kd.C_max hr
  have HAW := Lib.hid (fun (u : World) (hu : Below w.heap.size w u) => awake9_calls u (hK.below hu (Nat.le_refl _)))
  have hzb := (zero_of_info infoB9).1
  have hzr := (zero_of_info infoR9).1
  have HI9 := Lib.hid (And.intro Tryd.underlying41 (zero_of_info infoB9).2)
  have HR9 := Lib.hid (And.intro Tryd.underlying46 (zero_of_info infoR9).2)
  by_cases hbig : 20 < n
  · clear hn hr hH hK
    have f0 : (20 : Int) < (n : Int) := by omega
    go_enter Tryd.func9, Tryd.ntmps9
    go_wp2_with fail
    refine (HAW.out _ (Below.refl _ _)).mono ?_
    rintro e w1 ⟨rfl, hb⟩
    go_wp2_with fail
    go_ret
    exact ⟨rfl, hb⟩
  have f0 : ¬ (20 : Int) < (n : Int) := by omega
  by_cases hno : i < 0 ∨ (n : Int) ≤ i
  · have HMK := Lib.hid (fun (u : World) => make_none A n c i u (by omega) hno)
    unfold bV at HMK
    clear hn hr hH hK
    have walk : ∀ _ : i < 0 ∨ (¬ i < 0 ∧ (n : Int) ≤ i), Calls Tryd.prog 9 #[.slice A n c, .int .i64 i] w fun e w' => e = .returned (.bool true) ∧ Below w.heap.size w w' := by
      rintro (g1 | ⟨g1, g2⟩)
      · go_enter Tryd.func9, Tryd.ntmps9
        go_wp2_with fail
        refine (HMK.out _).mono ?_
        rintro e w1 ⟨rfl, hb1⟩
        have hk2 := heap_alloc_new w1 (.cells #[.int .i64 0, .int .i64 0, .slice none 0 0] 41)
        have hl0 := run_load_i64 (w1.alloc (.cells #[.int .i64 0, .int .i64 0, .slice none 0 0] 41)) ⟨w1.heap.size, 0, none⟩ _ ((blk_cell hk2 0).trans rfl)
        have hl1 := run_load_i64 (w1.alloc (.cells #[.int .i64 0, .int .i64 0, .slice none 0 0] 41)) ⟨w1.heap.size, 1, none⟩ _ ((blk_cell hk2 1).trans rfl)
        have hl2 := run_load_hs (w1.alloc (.cells #[.int .i64 0, .int .i64 0, .slice none 0 0] 41)) ⟨w1.heap.size, 2, none⟩ _ ((blk_cell hk2 2).trans rfl)
        have HB2 := Lib.hid (below_alloc hb1 (.cells #[.int .i64 0, .int .i64 0, .slice none 0 0] 41))
        clear hk2 hb1
        go_wp2_with ((with_reducible show wpList _ _ _ (Oper.mk _ (Op.store _ (.tmp 5) _) _ _ _ _ :: _) _ _); (go_loud (refine wpl_store_new rfl 41 (.tmp 5) (.tmp 17) rfl #[.int .i64 0, .int .i64 0, .slice none 0 0] #[.int .i64 0, .int .i64 0, .slice none 0 0] rfl rfl HI9.out.2 rfl (by simp [Value.oneCell']) ?_)))
        refine (HAW.out _ HB2.out).mono ?_
        rintro e w3 ⟨rfl, hb3⟩
        go_wp2_with fail
        go_ret
        exact ⟨rfl, HB2.out.trans (Below.mono hb3 HB2.out.size)⟩
      · go_enter Tryd.func9, Tryd.ntmps9
        go_wp2_with fail
        refine (HMK.out _).mono ?_
        rintro e w1 ⟨rfl, hb1⟩
        have hk2 := heap_alloc_new w1 (.cells #[.int .i64 0, .int .i64 0, .slice none 0 0] 41)
        have hl0 := run_load_i64 (w1.alloc (.cells #[.int .i64 0, .int .i64 0, .slice none 0 0] 41)) ⟨w1.heap.size, 0, none⟩ _ ((blk_cell hk2 0).trans rfl)
        have hl1 := run_load_i64 (w1.alloc (.cells #[.int .i64 0, .int .i64 0, .slice none 0 0] 41)) ⟨w1.heap.size, 1, none⟩ _ ((blk_cell hk2 1).trans rfl)
        have hl2 := run_load_hs (w1.alloc (.cells #[.int .i64 0, .int .i64 0, .slice none 0 0] 41)) ⟨w1.heap.size, 2, none⟩ _ ((blk_cell hk2 2).trans rfl)
        have HB2 := Lib.hid (below_alloc hb1 (.cells #[.int .i64 0, .int .i64 0, .slice none 0 0] 41))
        clear hk2 hb1
        go_wp2_with ((with_reducible show wpList _ _ _ (Oper.mk _ (Op.store _ (.tmp 5) _) _ _ _ _ :: _) _ _); (go_loud (refine wpl_store_new rfl 41 (.tmp 5) (.tmp 17) rfl #[.int .i64 0, .int .i64 0, .slice none 0 0] #[.int .i64 0, .int .i64 0, .slice none 0 0] rfl rfl HI9.out.2 rfl (by simp [Value.oneCell']) ?_)))
        refine (HAW.out _ HB2.out).mono ?_
        rintro e w3 ⟨rfl, hb3⟩
        go_wp2_with fail
        go_ret
        exact ⟨rfl, HB2.out.trans (Below.mono hb3 HB2.out.size)⟩
    exact walk (by omega)
  obtain ⟨i, rfl⟩ : ∃ k : Nat, i = (k : Int) := ⟨i.toNat, by omega⟩
  have hi : i < n := by omega
  obtain ⟨b, o, rfl, hbl, hrg⟩ := C_hash (w := w) (A := A) (xs := xs) (by rw [← hn]; exact hr) (by omega)
  obtain ⟨hp, hp32⟩ := hrg i (by omega)
  have hpb := hH.any i
  obtain ⟨d, hd⟩ := depth_ex n
  have hd16 : d ≤ 16 := depth_le hd (m := 16) (by have h16 : (2 : Nat) ^ 16 = 65536 := by decide
                                                  omega)
  have hown := fun hq => checkP_own (xs := xs) hn hd hi (by omega) hq
  obtain ⟨ys, hys⟩ : ∃ ys, pathF d xs i = ys := ⟨_, rfl⟩
  rw [hys] at hown
  have hyl : ys.length = d := by rw [← hys]; exact pathF_len _ _ _
  have hyH : Hs ys := by rw [← hys]; exact pathF_Hs d xs i hH
  obtain ⟨p, hpe⟩ : ∃ p, rdH xs i = p := ⟨_, rfl⟩
  rw [hpe] at hp hp32 hpb hown
  obtain ⟨P, hP⟩ : ∃ P, nums .u8 p = P := ⟨_, rfl⟩
  rw [hP] at hp
  have hPl : P.length = 32 := by rw [← hP, nums_len]; exact hp32
  have HMK := Lib.hid (show Calls Tryd.prog 30 #[.slice (some ⟨b, o, none⟩) n c, .int .i64 (i : Int)] w fun e w' => ∃ A3 c3, e = .returned (.tuple #[.agg #[.int .i64 (n : Int), .int .i64 (i : Int), .slice A3 d c3], .int .i64 0]) ∧ d ≤ c3 ∧ Kd.C kH w' A3 d ys ∧ Below w.heap.size w w' from by
    have h := make_calls (some ⟨b, o, none⟩) n c xs i d w hn hr hc (by omega) hH hi hd hK
    rw [hys] at h
    exact h)
  have HRF := Lib.hid (fun (u : World) (hu : Below w.heap.size w u) => (show Calls Tryd.prog 32 #[.slice (some ⟨b, o, none⟩) n c] u fun e w' => ∃ A2 c2, e = .returned (.slice A2 n c2) ∧ n ≤ c2 ∧ Kd.C kH w' A2 n xs ∧ Below u.heap.size u w' from by
    refine (refs9_calls (some ⟨b, o, none⟩) n c xs u hn (Kd.C_below hr hu) hc (by omega) hH).mono ?_
    rintro e w' ⟨v, rfl, hv, hb⟩
    obtain ⟨A2, c2, rfl, h1, h2⟩ := Kd.R_reads hv
    rw [← hn] at h1 h2 ⊢
    exact ⟨A2, c2, rfl, h1, h2, hb⟩))
  have HRM := Lib.hid (fun (A2 : Option Addr) (c2 : Nat) (u : World) (hr2 : Kd.C kH u A2 n xs) (hc2 : n ≤ c2) => (show Calls Tryd.prog 31 #[.slice A2 n c2, .int .i64 (i : Int)] u fun e w' => ∃ A3 c3, e = .returned (.agg #[.int .i64 (n : Int), .int .i64 (i : Int), .slice A3 d c3]) ∧ d ≤ c3 ∧ Kd.C kH w' A3 d ys ∧ Below u.heap.size u w' from by
    have h := rmake_calls A2 n c2 xs i d u hn hr2 hc2 (by omega) hH hi hd
    rw [hys] at h
    exact h))
  have HDB := Lib.hid (fun (A2 : Option Addr) (c2 : Nat) (u : World) (hr2 : Kd.C kH u A2 n xs) (hc2 : n ≤ c2) => rdoub_calls A2 n c2 xs u hn hr2 hc2 (by omega) hH)
  have HRR := Lib.hid (fun (A2 : Option Addr) (c2 : Nat) (u : World) (hr2 : Kd.C kH u A2 n xs) (hc2 : n ≤ c2) => rroot_calls A2 n c2 xs u hn hr2 hc2 (by omega) hH)
  have HCK := Lib.hid (fun (hq : doubP xs = false) (A3 : Option Addr) (c3 : Nat) (u : World) (hr3 : Kd.C kH u A3 d ys) (hc3 : d ≤ c3) (hu : Below w.heap.size w u) => (show Calls Tryd.prog 33 #[.agg #[.int .i64 (n : Int), .int .i64 (i : Int), .slice A3 d c3], .agg (nums .u8 (rootP xs)).toArray, .agg P.toArray] u fun e w' => e = .returned (.int .i64 0) ∧ Below u.heap.size u w' from by
    have h9 := check_calls (n : Int) (i : Int) A3 d c3 ys (rootP xs) p u hyl.symm hr3 hc3 hyH (rootP_hash hH).1 hp32 hpb.2 (hK.below hu (Nat.le_refl _)) (by omega) (by omega)
    rw [hown hq, hP] at h9
    exact h9))
  obtain ⟨R, hR⟩ : ∃ X, (nums .u8 (rootP xs)).toArray = X := ⟨_, rfl⟩
  rw [hR] at HRR HCK
  obtain ⟨D, hD⟩ : ∃ X, doubP xs = X := ⟨_, rfl⟩
  rw [hD] at HDB HCK
  have HY := Lib.hid (And.intro hyl hyH)
  have hu := Tryd.underlying25
  have hu24 := Tryd.underlying24
  have hi1 : (Tryd.prog.info? 25).map (·.size) = some P.length := by rw [hPl]; exact (zero_of_info infoHash).2
  have HRG := Lib.hid (fun (u : World) (hu : Below w.heap.size w u) => range_below hu hbl hp)
  have g1 : ¬ (i : Int) < 0 := by omega
  have g2 : ¬ (n : Int) ≤ (i : Int) := by omega
  have g3 : (0 : Int) ≤ (i : Int) := by omega
  have g4 : (i : Int) < (n : Int) := by omega
  clear hn hr hH hK hpe hP hPl hp hpb hp32 hrg hbl hd hyl hyH hys hown hR hD hno
  go_enter Tryd.func9, Tryd.ntmps9
  go_wp2_with fail
  refine HMK.out.mono ?_
  rintro e w1 ⟨A1, c1, rfl, hc1, hC1, hb1⟩
  have hk2 := heap_alloc_new w1 (.cells #[.int .i64 (n : Int), .int .i64 (i : Int), .slice A1 d c1] 41)
  have hb2 := below_alloc (Below.refl w1.heap.size w1) (.cells #[.int .i64 (n : Int), .int .i64 (i : Int), .slice A1 d c1] 41)
  obtain ⟨W2, hW2⟩ : ∃ W, w1.alloc (.cells #[.int .i64 (n : Int), .int .i64 (i : Int), .slice A1 d c1] 41) = W := ⟨_, rfl⟩
  rw [hW2] at hk2 hb2
  have hs2 := hb2.size
  have HB2 := Lib.hid (hb1.trans (Below.mono hb2 hb1.size))
  have HK2 := Lib.hid hk2
  have HC1 := Lib.hid (And.intro hc1 (Kd.C_below hC1 hb2))
  have HW2 := Lib.hid hW2
  clear hk2 hb2 hs2 hW2 hC1 hc1 hb1
  go_wp2_with ((with_reducible show wpList _ _ _ (Oper.mk _ (Op.store _ (.tmp 5) _) _ _ _ _ :: _) _ _); (go_loud (refine wpl_store_new rfl 41 (.tmp 5) (.tmp 17) rfl #[.int .i64 0, .int .i64 0, .slice none 0 0] #[.int .i64 (n : Int), .int .i64 (i : Int), .slice A1 d c1] rfl rfl HI9.out.2 rfl (by simp [Value.oneCell']) ?_)))
  rw [HW2.out]
  refine (HRF.out _ HB2.out).mono ?_
  rintro e w3 ⟨A2, c2, rfl, hc2, hC2, hb3⟩
  have HB3 := Lib.hid hb3
  have HX3 := Lib.hid (And.intro hc2 hC2)
  clear hb3 hc2 hC2
  go_wp2_with fail
  refine (HRM.out A2 c2 _ HX3.out.2 HX3.out.1).mono ?_
  rintro e w4 ⟨A3, c3, rfl, hc3, hC3, hb4⟩
  have hk5 := heap_alloc_new w4 (.cells #[.int .i64 (n : Int), .int .i64 (i : Int), .slice A3 d c3] 46)
  have hb5 := below_alloc (Below.refl w4.heap.size w4) (.cells #[.int .i64 (n : Int), .int .i64 (i : Int), .slice A3 d c3] 46)
  obtain ⟨W5, hW5⟩ : ∃ W, w4.alloc (.cells #[.int .i64 (n : Int), .int .i64 (i : Int), .slice A3 d c3] 46) = W := ⟨_, rfl⟩
  rw [hW5] at hk5 hb5
  have hB25 := (HB3.out.trans (Below.mono hb4 HB3.out.size)).trans (Below.mono hb5 (HB3.out.trans (Below.mono hb4 HB3.out.size)).size)
  have HB5 := Lib.hid (HB2.out.trans (Below.mono hB25 HB2.out.size))
  have hs5 := hb5.size
  -- all that is read, wherever W5 stays
  have HSS := Lib.hid (show ∀ u : World, Below W5.heap.size W5 u → ((loadVar 3 ⟨w1.heap.size, 0, none⟩).run Tryd.prog u = .ok (.int .i64 (n : Int)) u ∧ (loadVar 3 ⟨w1.heap.size, 1, none⟩).run Tryd.prog u = .ok (.int .i64 (i : Int)) u ∧ (loadVar 22 ⟨w1.heap.size, 2, none⟩).run Tryd.prog u = .ok (.slice A1 d c1) u)
      ∧ ((loadVar 3 ⟨w4.heap.size, 0, none⟩).run Tryd.prog u = .ok (.int .i64 (n : Int)) u ∧ (loadVar 3 ⟨w4.heap.size, 1, none⟩).run Tryd.prog u = .ok (.int .i64 (i : Int)) u ∧ (loadVar 28 ⟨w4.heap.size, 2, none⟩).run Tryd.prog u = .ok (.slice A3 d c3) u)
      ∧ (loadVar 41 ⟨w1.heap.size, 0, none⟩).run Tryd.prog u = .ok (.agg #[.int .i64 (n : Int), .int .i64 (i : Int), .slice A1 d c1]) u ∧ u.rangeAt b (o + i * 32) P from fun u h => by
    have h9 := (h.block _ (blk_lt ((hB25.block _ (blk_lt HK2.out)).trans HK2.out))).trans ((hB25.block _ (blk_lt HK2.out)).trans HK2.out)
    have h8 := (h.block _ (blk_lt hk5)).trans hk5
    exact ⟨⟨run_load_i64 _ _ _ ((blk_cell h9 0).trans rfl), run_load_i64 _ _ _ ((blk_cell h9 1).trans rfl), run_load_hs _ _ _ ((blk_cell h9 2).trans rfl)⟩, ⟨run_load_i64 _ _ _ ((blk_cell h8 0).trans rfl), run_load_i64 _ _ _ ((blk_cell h8 1).trans rfl), run_load_rz _ _ _ ((blk_cell h8 2).trans rfl)⟩, run_loadVar_row (P := Tryd.prog) u w1.heap.size 41 41 _ (0, 0) _ h9 HI9.out.1 rfl HI9.out.2, HRG.out u (HB5.out.trans (Below.mono h HB5.out.size))⟩)
  have HCC := Lib.hid (show ∀ u : World, Below W5.heap.size W5 u → Kd.C kH u A1 d ys ∧ Kd.C kH u A3 d ys ∧ Below w.heap.size w u from fun u h =>
    ⟨Kd.C_below HC1.out.2 (hB25.trans (Below.mono h hB25.size)), Kd.C_below hC3 (hb5.trans (Below.mono h hs5)), HB5.out.trans (Below.mono h HB5.out.size)⟩)
  have HC3 := Lib.hid hc3
  have HW5 := Lib.hid hW5
  obtain ⟨⟨l0, l1, l2⟩, ⟨m0, m1, m2⟩, _, _⟩ := HSS.out W5 (Below.refl _ _)
  clear hk5 hb5 hB25 hs5 hC3 hc3 hb4 hW5 HB3 HX3
  go_wp2_with ((with_reducible show wpList _ _ _ (Oper.mk _ (Op.store _ (.tmp 7) _) _ _ _ _ :: _) _ _); (go_loud (refine wpl_store_new rfl 46 (.tmp 7) (.tmp 51) rfl #[.int .i64 0, .int .i64 0, .slice none 0 0] #[.int .i64 (n : Int), .int .i64 (i : Int), .slice A3 d c3] rfl rfl HR9.out.2 rfl (by simp [Value.oneCell']) ?_)); rw [HW5.out])
  clear l0 l1 l2 m0 m1 m2
  go_loopw [80] (fun vk wr => ∃ k : Nat, vk = .int .i64 (k : Int) ∧ Hid (k ≤ d ∧ Below W5.heap.size W5 wr)) (fun vk _ => d + 1 - (intOf vk).toNat)
  case atStart => exact ⟨0, rfl, Lib.hid ⟨Nat.zero_le _, Below.refl _ _⟩⟩
  case round =>
    obtain ⟨k, rfl, H⟩ := hrel
    have HBK := Lib.hid H.out.2
    have hkd := H.out.1
    clear H
    by_cases hlt : k < d
    · have gk : (k : Int) < (d : Int) := by omega
      have gk0 : (0 : Int) ≤ (k : Int) := by omega
      obtain ⟨b1, o1, rfl, hbl1, hrg1⟩ := C_hash (w := wr) (A := A1) (xs := ys) (by rw [HY.out.1]; exact (HCC.out _ HBK.out).1) (by rw [HY.out.1]; omega)
      obtain ⟨b3, o3, rfl, hbl3, hrg3⟩ := C_hash (w := wr) (A := A3) (xs := ys) (by rw [HY.out.1]; exact (HCC.out _ HBK.out).2.1) (by rw [HY.out.1]; omega)
      have r1 := (hrg1 k (by rw [HY.out.1]; exact hlt)).1
      have r3 := (hrg3 k (by rw [HY.out.1]; exact hlt)).1
      have hyk := HY.out.2.any k
      have q0 := fun u => eqH (rdH ys k) (rdH ys k) hyk.1 hyk.1 u
      simp only [beq_self_eq_true] at q0
      have hQl : (nums .u8 (rdH ys k)).length = 32 := by rw [nums_len]; exact hyk.1
      obtain ⟨Q, hQ⟩ : ∃ X, nums .u8 (rdH ys k) = X := ⟨_, rfl⟩
      rw [hQ] at r1 r3 q0 hQl
      have hiQ : (Tryd.prog.info? 25).map (·.size) = some Q.length := by rw [hQl]; exact (zero_of_info infoHash).2
      have hiQ2 : (Tryd.prog.info? 24).map (·.size) = some Q.length := by rw [hQl]; exact (zero_of_info info32b).2
      have hHeld : (loadVar 22 ⟨w1.heap.size, 2, none⟩).run Tryd.prog wr.drew = .ok (.slice (some ⟨b1, o1, none⟩) d c1) wr.drew ∧ wr.drew.rangeAt b1 (o1 + k * 32) Q ∧ (loadVar 28 ⟨w4.heap.size, 2, none⟩).run Tryd.prog wr.drew = .ok (.slice (some ⟨b3, o3, none⟩) d c3) wr.drew ∧ wr.drew.rangeAt b3 (o3 + k * 32) Q :=
        ⟨(HSS.out _ (below_drew HBK.out)).1.2.2, r1, (HSS.out _ (below_drew HBK.out)).2.1.2.2, r3⟩
      have HBK2 := Lib.hid (below_drew HBK.out)
      clear r1 r3 hrg1 hrg3 hQ hQl hyk hbl1 hbl3
      go_wp2_with fail
      refine wp_region_held (S := fun u => (loadVar 22 ⟨w1.heap.size, 2, none⟩).run Tryd.prog u = .ok (.slice (some ⟨b1, o1, none⟩) d c1) u ∧ u.rangeAt b1 (o1 + k * 32) Q ∧ (loadVar 28 ⟨w4.heap.size, 2, none⟩).run Tryd.prog u = .ok (.slice (some ⟨b3, o3, none⟩) d c3) u ∧ u.rangeAt b3 (o3 + k * 32) Q) (by kernel_rfl) ?_
      change wpAnyH _ _ _ _ _ _ _ _ (World.drew _)
      refine wpAnyH_take (i := 0) (oi := ({ dst := some 83, op := Op.fieldAddr 41 (Operand.tmp 5) 2, type := 0, pos := "law.go:47", after := #[], guard := none } : Oper)) (v := .pointer (some ⟨w1.heap.size, 2, none⟩)) rfl (by kernel_rfl) (by kernel_rfl) (by kernel_rfl) (fun _ _ _ h => h) (Or.inl ⟨by rfl, fun w hSw => by go_simp⟩) hHeld ?_
      simp only [Act.put, List.setIfInBounds_toArray, List.set_cons_zero, List.set_cons_succ]
      refine wpAnyH_take (i := 1) (oi := ({ dst := some 84, op := Op.load 22 (Operand.tmp 83), type := 22, pos := "law.go:47", after := #[{ on := 0, ground := Ground.data }], guard := none } : Oper)) (v := .slice (some ⟨b1, o1, none⟩) d c1) rfl (by kernel_rfl) (by kernel_rfl) (by kernel_rfl) (fun _ _ _ h => h) (Or.inl ⟨by rfl, fun w hSw => by obtain ⟨z0, z1, z2, z3⟩ := hSw; go_simp⟩) hHeld ?_
      simp only [Act.put, List.setIfInBounds_toArray, List.set_cons_zero, List.set_cons_succ]
      refine wpAnyH_take (i := 2) (oi := ({ dst := some 85, op := Op.move (Operand.tmp 8), type := 3, pos := "law.go:47", after := #[], guard := none } : Oper)) (v := .int .i64 (k : Int)) rfl (by kernel_rfl) (by kernel_rfl) (by kernel_rfl) (fun _ _ _ h => h) (Or.inl ⟨by rfl, fun w hSw => by go_simp⟩) hHeld ?_
      simp only [Act.put, List.setIfInBounds_toArray, List.set_cons_zero, List.set_cons_succ]
      refine wpAnyH_take (i := 3) (oi := ({ dst := some 86, op := Op.indexAddr 22 (Operand.tmp 84) (Operand.tmp 85), type := 0, pos := "law.go:47", after := #[{ on := 1, ground := Ground.data }, { on := 2, ground := Ground.data }], guard := none } : Oper)) (v := .pointer (some ⟨b1, o1 + k * 32, none⟩)) rfl (by kernel_rfl) (by kernel_rfl) (by kernel_rfl) (fun _ _ _ h => h) (Or.inl ⟨by rfl, fun w hSw => by go_simp⟩) hHeld ?_
      simp only [Act.put, List.setIfInBounds_toArray, List.set_cons_zero, List.set_cons_succ]
      refine wpAnyH_take (i := 4) (oi := ({ dst := some 87, op := Op.load 25 (Operand.tmp 86), type := 25, pos := "law.go:47", after := #[{ on := 3, ground := Ground.data }], guard := none } : Oper)) (v := .agg Q.toArray) rfl (by kernel_rfl) (by kernel_rfl) (by kernel_rfl) (fun _ _ _ h => h) (yieldsIf_load_mid (by rfl) _ _ rfl b1 (o1 + k * 32) rfl Q _ (fun _ h => h.2.1) hu rfl hiQ) hHeld ?_
      simp only [Act.put, List.setIfInBounds_toArray, List.set_cons_zero, List.set_cons_succ]
      refine wpAnyH_take (i := 5) (oi := ({ dst := some 88, op := Op.fieldAddr 46 (Operand.tmp 7) 2, type := 0, pos := "law.go:47", after := #[], guard := none } : Oper)) (v := .pointer (some ⟨w4.heap.size, 2, none⟩)) rfl (by kernel_rfl) (by kernel_rfl) (by kernel_rfl) (fun _ _ _ h => h) (Or.inl ⟨by rfl, fun w hSw => by go_simp⟩) hHeld ?_
      simp only [Act.put, List.setIfInBounds_toArray, List.set_cons_zero, List.set_cons_succ]
      refine wpAnyH_take (i := 6) (oi := ({ dst := some 89, op := Op.load 28 (Operand.tmp 88), type := 28, pos := "law.go:47", after := #[{ on := 5, ground := Ground.data }], guard := none } : Oper)) (v := .slice (some ⟨b3, o3, none⟩) d c3) rfl (by kernel_rfl) (by kernel_rfl) (by kernel_rfl) (fun _ _ _ h => h) (Or.inl ⟨by rfl, fun w hSw => by obtain ⟨z0, z1, z2, z3⟩ := hSw; go_simp⟩) hHeld ?_
      simp only [Act.put, List.setIfInBounds_toArray, List.set_cons_zero, List.set_cons_succ]
      refine wpAnyH_take (i := 7) (oi := ({ dst := some 90, op := Op.move (Operand.tmp 8), type := 3, pos := "law.go:47", after := #[], guard := none } : Oper)) (v := .int .i64 (k : Int)) rfl (by kernel_rfl) (by kernel_rfl) (by kernel_rfl) (fun _ _ _ h => h) (Or.inl ⟨by rfl, fun w hSw => by go_simp⟩) hHeld ?_
      simp only [Act.put, List.setIfInBounds_toArray, List.set_cons_zero, List.set_cons_succ]
      refine wpAnyH_take (i := 8) (oi := ({ dst := some 91, op := Op.indexAddr 28 (Operand.tmp 89) (Operand.tmp 90), type := 0, pos := "law.go:47", after := #[{ on := 6, ground := Ground.data }, { on := 7, ground := Ground.data }], guard := none } : Oper)) (v := .pointer (some ⟨b3, o3 + k * 32, none⟩)) rfl (by kernel_rfl) (by kernel_rfl) (by kernel_rfl) (fun _ _ _ h => h) (Or.inl ⟨by rfl, fun w hSw => by go_simp⟩) hHeld ?_
      simp only [Act.put, List.setIfInBounds_toArray, List.set_cons_zero, List.set_cons_succ]
      refine wpAnyH_take (i := 9) (oi := ({ dst := some 92, op := Op.load 24 (Operand.tmp 91), type := 24, pos := "law.go:47", after := #[{ on := 8, ground := Ground.data }], guard := none } : Oper)) (v := .agg Q.toArray) rfl (by kernel_rfl) (by kernel_rfl) (by kernel_rfl) (fun _ _ _ h => h) (yieldsIf_load_mid (by rfl) _ _ rfl b3 (o3 + k * 32) rfl Q _ (fun _ h => h.2.2.2) hu24 rfl hiQ2) hHeld ?_
      simp only [Act.put, List.setIfInBounds_toArray, List.set_cons_zero, List.set_cons_succ]
      refine wpAnyH_take (i := 10) (oi := ({ dst := some 93, op := Op.binOp BinOp.neq 25 (Operand.tmp 87) (Operand.tmp 92) 25, type := 4, pos := "law.go:47", after := #[{ on := 4, ground := Ground.data }, { on := 9, ground := Ground.data }], guard := none } : Oper)) (v := .bool false) rfl (by kernel_rfl) (by kernel_rfl) (by kernel_rfl) (fun _ _ _ h => h) (Or.inl ⟨by rfl, fun w hSw => by go_simp⟩) hHeld ?_
      simp only [Act.put, List.setIfInBounds_toArray, List.set_cons_zero, List.set_cons_succ]
      refine wpAnyH_done (by kernel_rfl) ?_ _
      clear hHeld q0
      go_wp2_with fail
      have hwk : wrap64 ((k : Int) + 1) = ((k + 1 : Nat) : Int) := wrap64_succ (Nat.lt_of_le_of_lt (Nat.le_trans hkd hd16) (by decide))
      try rw [hwk]
      go_roundw
      case rel => exact ⟨k + 1, rfl, Lib.hid ⟨hlt, HBK2.out⟩⟩
      case measure => exact next_count hlt
    · have gk : ¬ (k : Int) < (d : Int) := by omega
      have HT := Lib.hid (HCC.out _ HBK.out).2.2
      go_wp2_with fail
      refine (HRF.out _ HT.out).mono ?_
      rintro e w6 ⟨A6, c6, rfl, hc6, hC6, hb6⟩
      have HB6 := Lib.hid (HBK.out.trans (Below.mono hb6 HBK.out.size))
      have HX6 := Lib.hid (And.intro hc6 hC6)
      clear hb6 hc6 hC6
      go_wp2_with fail
      refine (HDB.out A6 c6 _ HX6.out.2 HX6.out.1).mono ?_
      rintro e w7 ⟨rfl, hb7⟩
      have HB7 := Lib.hid (HB6.out.trans (Below.mono hb7 HB6.out.size))
      clear hb7
      cases D with
      | true =>
        go_wp2_with fail
        refine (HAW.out _ (HCC.out _ HB7.out).2.2).mono ?_
        rintro e w8 ⟨rfl, hb8⟩
        go_wp2_with fail
        go_ret
        exact ⟨rfl, (HCC.out _ HB7.out).2.2.trans (Below.mono hb8 (HCC.out _ HB7.out).2.2.size)⟩
      | false =>
        go_wp2_with fail
        have HB8 := Lib.hid (below_drew HB7.out)
        have hHeld := (HSS.out _ HB8.out).2.2
        have HTR := Lib.hid (show ∀ u u' : World, Below W5.heap.size W5 u → Below u.heap.size u u' → Below W5.heap.size W5 u' from fun u u' hu hu' => hu.trans (Below.mono hu' hu.size))
        refine wp_region_held (S := fun u => (loadVar 41 ⟨w1.heap.size, 0, none⟩).run Tryd.prog u = .ok (.agg #[.int .i64 (n : Int), .int .i64 (i : Int), .slice A1 d c1]) u ∧ u.rangeAt b (o + i * 32) P) (by kernel_rfl) ?_
        change wpAnyH _ _ _ _ _ _ _ _ (World.drew _)
        refine wpAnyH_take (i := 0) (oi := ({ dst := some 99, op := Op.load 41 (Operand.tmp 5), type := 41, pos := "law.go:54", after := #[], guard := none } : Oper)) (v := .agg #[.int .i64 (n : Int), .int .i64 (i : Int), .slice A1 d c1]) rfl (by kernel_rfl) (by kernel_rfl) (by kernel_rfl) (fun _ _ _ h => h) (Or.inl ⟨by rfl, fun w hSw => by obtain ⟨z0, z1⟩ := hSw; go_simp⟩) hHeld ?_
        simp only [Act.put, List.setIfInBounds_toArray, List.set_cons_zero, List.set_cons_succ]
        refine wpAnyH_take (i := 1) (oi := ({ dst := some 100, op := Op.move (Operand.tmp 0), type := 22, pos := "law.go:54", after := #[], guard := none } : Oper)) (v := .slice (some ⟨b, o, none⟩) n c) rfl (by kernel_rfl) (by kernel_rfl) (by kernel_rfl) (fun _ _ _ h => h) (Or.inl ⟨by rfl, fun w hSw => by go_simp⟩) hHeld ?_
        simp only [Act.put, List.setIfInBounds_toArray, List.set_cons_zero, List.set_cons_succ]
        refine wpAnyH_take (i := 4) (oi := ({ dst := some 103, op := Op.move (Operand.tmp 0), type := 22, pos := "law.go:54", after := #[], guard := none } : Oper)) (v := .slice (some ⟨b, o, none⟩) n c) rfl (by kernel_rfl) (by kernel_rfl) (by kernel_rfl) (fun _ _ _ h => h) (Or.inl ⟨by rfl, fun w hSw => by go_simp⟩) hHeld ?_
        simp only [Act.put, List.setIfInBounds_toArray, List.set_cons_zero, List.set_cons_succ]
        refine wpAnyH_take (i := 5) (oi := ({ dst := some 104, op := Op.move (Operand.tmp 1), type := 3, pos := "law.go:54", after := #[], guard := none } : Oper)) (v := .int .i64 (i : Int)) rfl (by kernel_rfl) (by kernel_rfl) (by kernel_rfl) (fun _ _ _ h => h) (Or.inl ⟨by rfl, fun w hSw => by go_simp⟩) hHeld ?_
        simp only [Act.put, List.setIfInBounds_toArray, List.set_cons_zero, List.set_cons_succ]
        refine wpAnyH_take (i := 6) (oi := ({ dst := some 105, op := Op.indexAddr 22 (Operand.tmp 103) (Operand.tmp 104), type := 0, pos := "law.go:54", after := #[{ on := 4, ground := Ground.data }, { on := 5, ground := Ground.data }], guard := none } : Oper)) (v := .pointer (some ⟨b, o + i * 32, none⟩)) rfl (by kernel_rfl) (by kernel_rfl) (by kernel_rfl) (fun _ _ _ h => h) (Or.inl ⟨by rfl, fun w hSw => by go_simp⟩) hHeld ?_
        simp only [Act.put, List.setIfInBounds_toArray, List.set_cons_zero, List.set_cons_succ]
        refine wpAnyH_take (i := 7) (oi := ({ dst := some 106, op := Op.load 25 (Operand.tmp 105), type := 25, pos := "law.go:54", after := #[{ on := 6, ground := Ground.data }], guard := none } : Oper)) (v := .agg P.toArray) rfl (by kernel_rfl) (by kernel_rfl) (by kernel_rfl) (fun _ _ _ h => h) (yieldsIf_load_mid (by rfl) _ _ rfl b (o + i * 32) rfl P _ (fun _ h => h.2) hu rfl hi1) hHeld ?_
        simp only [Act.put, List.setIfInBounds_toArray, List.set_cons_zero, List.set_cons_succ]
        refine wpAnyH_ready (rs := [2]) (by kernel_rfl) (by simp) ?_
        refine AllReadyH.cons (o := ({ dst := some 101, op := Op.call { callee := Callee.value (Operand.func 32), args := #[Operand.tmp 100], argTypes := #[22] }, type := 28, pos := "law.go:54", after := #[{ on := 1, ground := Ground.data }], guard := none } : Oper)) rfl (fun K hK => ?_) AllReadyH.nil
        go_simp
        (with_reducible refine (HRF.out _ (HCC.out _ HB8.out).2.2).mono ?_)
        rintro e w9 ⟨A9, c9, rfl, hc9, hC9, hb9⟩
        have HB9 := Lib.hid (HTR.out _ _ HB8.out hb9)
        have HX9 := Lib.hid (And.intro hc9 hC9)
        clear hc9 hC9 hb9
        go_wp2_with fail
        refine hK.out _ _ ((HSS.out _ HB9.out).2.2) (fun hHeld => ?_)
        clear hK K
        try simp only [Act.put, List.setIfInBounds_toArray, List.set_cons_zero, List.set_cons_succ]
        refine wpAnyH_ready (rs := [3]) (by kernel_rfl) (by simp) ?_
        refine AllReadyH.cons (o := ({ dst := some 102, op := Op.call { callee := Callee.value (Operand.func 21), args := #[Operand.tmp 101], argTypes := #[28] }, type := 24, pos := "law.go:54", after := #[{ on := 2, ground := Ground.data }, { on := 2, ground := Ground.chain }], guard := none } : Oper)) rfl (fun K hK => ?_) AllReadyH.nil
        go_simp
        (with_reducible refine (HRR.out A9 c9 _ HX9.out.2 HX9.out.1).mono ?_)
        rintro e wa ⟨rfl, hba⟩
        have HBA := Lib.hid (HTR.out _ _ HB9.out hba)
        clear hba
        go_wp2_with fail
        refine hK.out _ _ ((HSS.out _ HBA.out).2.2) (fun hHeld => ?_)
        clear hK K
        try simp only [Act.put, List.setIfInBounds_toArray, List.set_cons_zero, List.set_cons_succ]
        refine wpAnyH_ready (rs := [8]) (by kernel_rfl) (by simp) ?_
        refine AllReadyH.cons (o := ({ dst := some 107, op := Op.call { callee := Callee.value (Operand.func 33), args := #[Operand.tmp 99, Operand.tmp 102, Operand.tmp 106], argTypes := #[41, 25, 25] }, type := 42, pos := "law.go:54", after := #[{ on := 0, ground := Ground.data }, { on := 3, ground := Ground.data }, { on := 7, ground := Ground.data }, { on := 3, ground := Ground.chain }], guard := none } : Oper)) rfl (fun K hK => ?_) AllReadyH.nil
        go_simp
        (with_reducible refine (HCK.out trivial A1 c1 _ (HCC.out _ HBA.out).1 HC1.out.1 (HCC.out _ HBA.out).2.2).mono ?_)
        rintro e wb ⟨rfl, hbb⟩
        have HBB := Lib.hid (HTR.out _ _ HBA.out hbb)
        clear hbb
        go_wp2_with fail
        refine hK.out _ _ ((HSS.out _ HBB.out).2.2) (fun hHeld => ?_)
        clear hK K
        try simp only [Act.put, List.setIfInBounds_toArray, List.set_cons_zero, List.set_cons_succ]
        refine wpAnyH_take (i := 9) (oi := ({ dst := some 108, op := Op.binOp BinOp.eql 42 (Operand.tmp 107) (Operand.const (Value.int IntKind.i64 0)) 42, type := 4, pos := "law.go:54", after := #[{ on := 8, ground := Ground.data }], guard := none } : Oper)) (v := .bool true) rfl (by kernel_rfl) (by kernel_rfl) (by kernel_rfl) (fun _ _ _ h => h) (Or.inl ⟨by rfl, fun w hSw => by go_simp⟩) hHeld ?_
        simp only [Act.put, List.setIfInBounds_toArray, List.set_cons_zero, List.set_cons_succ]
        refine wpAnyH_take (i := 10) (oi := ({ dst := some 109, op := Op.move (Operand.tmp 108), type := 4, pos := "law.go:54", after := #[{ on := 9, ground := Ground.data }, { on := 8, ground := Ground.chain }], guard := none } : Oper)) (v := .bool true) rfl (by kernel_rfl) (by kernel_rfl) (by kernel_rfl) (fun _ _ _ h => h) (Or.inl ⟨by rfl, fun w hSw => by go_simp⟩) hHeld ?_
        simp only [Act.put, List.setIfInBounds_toArray, List.set_cons_zero, List.set_cons_succ]
        refine wpAnyH_ready (rs := [11]) (by kernel_rfl) (by simp) ?_
        refine AllReadyH.cons (o := ({ dst := some 110, op := Op.call { callee := Callee.value (Operand.func 29), args := #[], argTypes := #[] }, type := 4, pos := "law.go:54", after := #[{ on := 10, ground := Ground.chain }, { on := 10, ground := Ground.guard }], guard := some (10, true) } : Oper)) rfl (fun K hK => ?_) AllReadyH.nil
        go_simp
        (with_reducible refine (HAW.out _ (HCC.out _ HBB.out).2.2).mono ?_)
        rintro e wc ⟨rfl, hbc⟩
        have HBC := Lib.hid (HTR.out _ _ HBB.out hbc)
        clear hbc
        go_wp2_with fail
        refine hK.out _ _ ((HSS.out _ HBC.out).2.2) (fun hHeld => ?_)
        clear hK K
        try simp only [Act.put, List.setIfInBounds_toArray, List.set_cons_zero, List.set_cons_succ]
        refine wpAnyH_take (i := 12) (oi := ({ dst := some 111, op := Op.pick (Operand.tmp 109) (Operand.tmp 110) (Operand.const (Value.bool false)), type := 4, pos := "law.go:54", after := #[{ on := 10, ground := Ground.data }, { on := 11, ground := Ground.data }], guard := none } : Oper)) (v := .bool true) rfl (by kernel_rfl) (by kernel_rfl) (by kernel_rfl) (fun _ _ _ h => h) (Or.inl ⟨by rfl, fun w hSw => by go_simp⟩) hHeld ?_
        simp only [Act.put, List.setIfInBounds_toArray, List.set_cons_zero, List.set_cons_succ]
        refine wpAnyH_take (i := 13) (oi := ({ dst := some 4, op := Op.assign (Operand.tmp 111), type := 4, pos := "law.go:54", after := #[{ on := 12, ground := Ground.data }, { on := 11, ground := Ground.chain }, { on := 0, ground := Ground.phase }, { on := 1, ground := Ground.phase }, { on := 2, ground := Ground.phase }, { on := 3, ground := Ground.phase }, { on := 4, ground := Ground.phase }, { on := 5, ground := Ground.phase }, { on := 6, ground := Ground.phase }, { on := 7, ground := Ground.phase }, { on := 8, ground := Ground.phase }, { on := 9, ground := Ground.phase }, { on := 10, ground := Ground.phase }, { on := 11, ground := Ground.phase }, { on := 12, ground := Ground.phase }], guard := none } : Oper)) (v := .bool true) rfl (by kernel_rfl) (by kernel_rfl) (by kernel_rfl) (fun _ _ _ h => h) (Or.inl ⟨by rfl, fun w hSw => by go_simp⟩) hHeld ?_
        simp only [Act.put, List.setIfInBounds_toArray, List.set_cons_zero, List.set_cons_succ]
        refine wpAnyH_done (by kernel_rfl) ?_ _
        clear hHeld
        go_wp2_with fail
        go_ret
        exact ⟨rfl, (HCC.out _ HBC.out).2.2⟩
end Go.Proofs.YtlmcdkjobdcflaaDoor.Hand
