/- The document's root of a list, and whether a list is doubled: walked. -/
import Derived.Test.YtlmcdkjobdcflaaDoorProg
import Derived.Below
import Derived.Deep.Draws
import Derived.Deep.AppendLies
import Derived.Maps.AppendAt
import Derived.OwnWalk
import Derived.Laws.BytesArg
import Derived.Laws.MakeOwn
import Derived.Laws.OwnMore
import Derived.Deep.OwnRows
import Derived.Tactics
import Derived.Lib.ConvBytes
import Derived.Laws.Slices
import Derived.WalkKit
import Derived.KernelRfl
import Derived.RowKit3
import Derived.Deep.LoopGhost
import Derived.Deep.QuietTactic
import Derived.BigQuiet
import Derived.WideLaws
import Derived.Deep.DeepCutAuto
import Derived.Deep.CutBlock
import Derived.Deep.RegionHeld3
import Derived.Laws.Rows
import Derived.Lib.AppendStr
import Derived.ArgAppend
import Derived.Laws.IdiomCopy
import Derived.OrdersHeld
import Derived.Laws.BitsLemmas
import Derived.RowKit
import Derived.StillTailTactics
import Derived.Test.YtlmcdkjobdcflaaDoorWWords
import Derived.Test.YtlmcdkjobdcflaaDoorWLast
import Derived.Test.YtlmcdkjobdcflaaDoorWMore
import Derived.Lib.Hide
import Derived.Outline
import Derived.Deep.MidRow
import Derived.Deep.WholeRow
import Derived.Test.YtlmcdkjobdcflaaDoorArrEq
import Derived.Test.YtlmcdkjobdcflaaDoorRefNode
namespace Go.Proofs.YtlmcdkjobdcflaaDoor.Hand
open Go Go.RowKit Go.Proofs.YtlmcdkjobdcflaaDoor.Plain Go.Proofs.YtlmcdkjobdcflaaDoor.PAll Go.Proofs.YtlmcdkjobdcflaaDoorW.PrintWords Go.Proofs.YtlmcdkjobdcflaaDoorW.PrintLast Go.Proofs.YtlmcdkjobdcflaaDoorW.PrintMore
set_option linter.unusedVariables false
set_option linter.unusedSimpArgs false
set_option maxRecDepth 100000
theorem eqR (S T : List Int) (hS : S.length = 32) (hT : T.length = 32) (w : World) : (Op.equalIn 10000 24 (.agg (nums .u8 S).toArray) (.agg (nums .u8 T).toArray)).run Tryd.prog w = .ok (S == T) w :=
  run_equalIn_nums (P := Tryd.prog) w 9998 24 5 32 .u8 Tryd.underlying24 Tryd.underlying5 (fun w => by rfl) S T hS hT
theorem built32 : Tryd.prog.built 24 [] = some (nums .u8 (List.replicate 32 0)).toArray := by kernel_rfl
theorem rootP_node {xs : List (List Int)} (h : 1 ≤ xs.length) : nodeP xs (depthP xs.length) 0 = rootP xs := by
  have hd := depthP_is xs.length
  rw [rootP_of hd, rootAt_depth hd h, nodeP_lev]
  exact wideP_pos h _
theorem depthP_le {n : Nat} (h : n ≤ 100000) : depthP n ≤ 1000 := by
  have := depth_le (depthP_is n) (m := 17) (by have : (2 : Nat) ^ 17 = 131072 := by decide
                                               omega)
  omega
set_option maxHeartbeats 2000000 in
theorem rroot_calls (A : Option Addr) (n c : Nat) (xs : List (List Int)) (w : World) (hn : n = xs.length) (hr : Kd.C kH w A n xs) (hc : n ≤ c) (hl : n ≤ 100000) (hH : Hs xs) :
    Calls Tryd.prog 21 #[.slice A n c] w fun e w' => e = .returned (.agg (nums .u8 (rootP xs)).toArray) ∧ Below w.heap.size w w' := by
  have HZ := (zero_of_info info32b).1
  obtain ⟨Z, hZ⟩ : ∃ C, (nums .u8 (List.replicate 32 0)).toArray = C := ⟨_, rfl⟩
  have hbu := built32
  rw [hZ] at HZ hbu
  have hZ32 : Z.size = 32 := by rw [← hZ]; rfl
  have hR32 : (nums .u8 (rootP xs)).length = 32 := by rw [nums_len]; exact (rootP_hash hH).1
  have hR1 := nums_one .u8 (rootP xs)
  have hnd : 1 ≤ n → nodeP xs (depthP n) 0 = rootP xs := fun h => by
    subst hn
    exact rootP_node h
  have h0 : n = 0 → (nums .u8 (rootP xs)).toArray = Z := fun h => by
    rw [← hZ]
    have : rootP xs = z32h := by unfold rootP; exact rootAt_none (by omega) _
    rw [this]
    rfl
  have HND := Lib.hid (fun (h : 1 ≤ n) (u : World) (hu : Kd.C kH u A n xs) => (show Calls Tryd.prog 53 #[.slice A n c, .int .i64 ((depthP n : Nat) : Int), .int .i64 0] u fun e w' => e = .returned (.agg (nums .u8 (rootP xs)).toArray) ∧ Below u.heap.size u w' from by
    have h3 := rnode_calls A n c xs hn hc hl hH (depthP n) 0 u hu (wideP_pos h _) (depthP_le hl)
    rw [hnd h] at h3
    exact h3))
  obtain ⟨R, hR⟩ : ∃ R, (nums .u8 (rootP xs)).toArray = R := ⟨_, rfl⟩
  rw [hR] at HND h0 ⊢
  have HF := Lib.hid (show (Tryd.prog.info? 24).map (·.size) = some R.size ∧ Z.size = R.size ∧ R.all (·.oneCell') = true from by
    have h32 : R.size = 32 := by rw [← hR, List.size_toArray]; exact hR32
    exact ⟨by rw [h32]; exact (zero_of_info info32b).2, by rw [h32, hZ32], by rw [← hR]; exact all_oneCell_toArray hR1⟩)
  have HU := Lib.hid Tryd.underlying24
  have HK := Lib.hid (heap_alloc_new w (.cells Z 24))
  have HB := Lib.hid (below_alloc (Below.refl w.heap.size w) (.cells Z 24))
  have HR := Lib.hid (Kd.C_alloc hr (.cells Z 24))
  have HBU := Lib.hid hbu
  have HH0 := Lib.hid h0
  by_cases hz : n = 0
  · subst hz
    obtain rfl := h0 rfl
    clear hn hr hZ hZ32 hR32 hR1 hnd h0 hR hbu hH HND HH0
    go_enter Tryd.func21, Tryd.ntmps21
    go_wp2_with (first
      | ((with_reducible show wpList _ _ _ (Oper.mk _ (Op.build _ _) _ _ _ _ :: _) _ _); (go_loud (refine wpl_build rfl 24 _ rfl #[] (by simp) R HBU.out ?_)))
      | ((with_reducible show wpList _ _ _ (Oper.mk _ (Op.store _ _ _) _ _ _ _ :: _) _ _); (go_loud (refine wpList_store_row rfl 24 (.tmp 2) (.tmp 6) rfl w.heap.size R rfl rfl 24 R HK.out HF.out.1 rfl HF.out.2.2 ?_))))
    exact bodyPost_ret (results_cell_row rfl _ _ w.heap.size 24 R (0, 0) _ rfl (setRow_heap _ _ _ _ _ _ HK.out) HU.out rfl HF.out.1) rfl ⟨rfl, below_setRow HB.out (Nat.le_refl _) _⟩
  · have g : ((n : Int) == 0) = false := beq_eq_false_iff_ne.2 (by omega)
    have hn1 : 1 ≤ n := by omega
    have HNN := Lib.hid hn1
    have HDE := Lib.hid (fun u => rdepth_calls n u (by omega))
    obtain ⟨D, hD⟩ : ∃ D, depthP n = D := ⟨_, rfl⟩
    rw [hD] at HND HDE
    clear hn hr hZ hZ32 hR32 hR1 hnd h0 hR hbu hH hz hD hn1
    go_enter Tryd.func21, Tryd.ntmps21
    go_wp2_with fail
    (with_reducible refine (HDE.out _).mono ?_)
    rintro e w2 ⟨rfl, ⟨m, rfl⟩⟩
    have HK2 := Lib.hid (blk_drewN HK.out m)
    have HB2 := Lib.hid (pw_below_drewN HB.out m)
    have HR2 := Lib.hid (Kd.C_drewN HR.out m)
    obtain ⟨W2, hW2⟩ : ∃ W, (w.alloc (.cells Z 24)).drewN m = W := ⟨_, rfl⟩
    rw [hW2] at HK2 HB2 HR2 ⊢
    clear hW2
    go_wp2_with fail
    (with_reducible refine (HND.out HNN.out _ HR2.out).mono ?_)
    rintro e w3 ⟨rfl, hb3⟩
    have HK3 := Lib.hid ((hb3.block _ (blk_lt HK2.out)).trans HK2.out)
    have HB3 := Lib.hid (HB2.out.trans (Below.mono hb3 HB2.out.size))
    clear hb3
    go_wp2_with ((with_reducible show wpList _ _ _ (Oper.mk _ (Op.store _ _ _) _ _ _ _ :: _) _ _); (go_loud (refine wpList_store_row rfl 24 (.tmp 2) (.tmp 11) rfl w.heap.size R rfl rfl 24 Z HK3.out HF.out.1 HF.out.2.1 HF.out.2.2 ?_)))
    exact bodyPost_ret (results_cell_row rfl _ _ w.heap.size 24 R (0, 0) _ rfl (setRow_heap _ _ _ _ _ _ HK3.out) HU.out rfl HF.out.1) rfl ⟨rfl, below_setRow HB3.out (Nat.le_refl _) _⟩
set_option maxHeartbeats 2000000 in
theorem rdoub_calls (A : Option Addr) (n c : Nat) (xs : List (List Int)) (w : World) (hn : n = xs.length) (hr : Kd.C kH w A n xs) (hc : n ≤ c) (hl : n ≤ 100000) (hH : Hs xs) :
    Calls Tryd.prog 27 #[.slice A n c] w fun e w' => e = .returned (.bool (doubP xs)) ∧ Below w.heap.size w w' := by
  have HNO := Lib.hid (fun (lvl a : Nat) (u : World) (hu : Kd.C kH u A n xs) (ha : a < wideP n lvl) (hl2 : lvl ≤ 1000) => rnode_calls A n c xs hn hc hl hH lvl a u hu ha hl2)
  have HDE := Lib.hid (fun u => rdepth_calls n u (by omega))
  have HWI := Lib.hid (fun (lvl : Nat) (h : lvl ≤ 1000) (u : World) => rwide_calls n lvl u (by omega) (by omega))
  have hd := depthP_is xs.length
  rw [← hn] at hd
  have hdle := depthP_le hl
  have hdoub : doubP xs = doubAt xs (depthP n) := doubP_depth (by rw [← hn]; exact hd)
  have hdd : ∀ i, i ≤ depthP n → doubAt xs i = true → doubP xs = true := fun i hi h => by rw [hdoub]; exact doubAt_mono h _ hi
  obtain ⟨D, hD⟩ : ∃ D, depthP n = D := ⟨_, rfl⟩
  rw [hD] at HDE hdle hdoub hdd
  have HR := Lib.hid hr
  have HN := Lib.hid (And.intro hn (And.intro hdoub (And.intro hdd (And.intro hdle hH))))
  have hwl := fun i => wideP_le n i
  have HWL := Lib.hid hwl
  clear hn hr hH hd hdoub hdd hD hwl
  go_enter Tryd.func27, Tryd.ntmps27
  go_wp2_with fail
  go_loopw [3] (fun s wr => ∃ i : Nat, i ≤ D ∧ s = .int .i64 (i : Int) ∧ Hid (doubAt xs i = false ∧ Below w.heap.size w wr)) (fun s _ => (D + 1 - (intOf s).toNat))
  case atStart => exact ⟨0, Nat.zero_le _, rfl, Lib.hid ⟨rfl, Below.refl _ _⟩⟩
  case round =>
    obtain ⟨i, hi, rfl, H⟩ := hrel
    go_wp2_with fail
    (with_reducible refine (HDE.out _).mono ?_)
    rintro e w2 ⟨rfl, ⟨m, rfl⟩⟩
    have HB2 := Lib.hid (pw_below_drewN H.out.2 m)
    obtain ⟨W2, hW2⟩ : ∃ W, wr.drewN m = W := ⟨_, rfl⟩
    rw [hW2] at HB2 ⊢
    clear hW2
    by_cases hlt : i < D
    · have g : decide ((i : Int) < (D : Int)) = true := decide_eq_true (by omega)
      obtain ⟨V, hV⟩ : ∃ V, wideP n i = V := ⟨_, rfl⟩
      have HW2 := Lib.hid (HWI.out i (by omega))
      rw [hV] at HW2
      have hVl := HWL.out i
      rw [hV] at hVl
      go_wp2_with fail
      go_loopw [4] (fun s wr => ∃ a : Nat, 2 * a ≤ V + 1 ∧ s = .int .i64 (a : Int) ∧ Hid ((∀ j, j < a → (rdH (lev xs i) (2 * j + 1) == rdH (lev xs i) (2 * j)) = false) ∧ Below w.heap.size w wr)) (fun s _ => (V + 2 - (intOf s).toNat))
      case atStart => exact ⟨0, by omega, rfl, Lib.hid ⟨fun j hj => absurd hj (by omega), HB2.out⟩⟩
      case round =>
        obtain ⟨a, ha, rfl, H2⟩ := hrel
        have hs1 : 2 * (a : Int) + 1 ≤ 9000000 := by omega
        go_wp2_with fail
        (with_reducible refine (HW2.out _).mono ?_)
        rintro e w3 ⟨rfl, ⟨m3, rfl⟩⟩
        have HB3 := Lib.hid (pw_below_drewN H2.out.2 m3)
        obtain ⟨W3, hW3⟩ : ∃ W, wr.drewN m3 = W := ⟨_, rfl⟩
        rw [hW3] at HB3 ⊢
        clear hW3
        by_cases hat : 2 * a + 1 < V
        · have g3 : decide (2 * (a : Int) + 1 < (V : Int)) = true := decide_eq_true (by omega)
          have n1 := HNO.out i (2 * a) W3 (Kd.C_below HR.out HB3.out) (by omega) (by omega)
          rw [show ((2 * a : Nat) : Int) = 2 * (a : Int) by simp] at n1
          have n2 := fun u hu => HNO.out i (2 * a + 1) u hu (by omega) (by omega)
          have e1 : nodeP xs i (2 * a) = rdH (lev xs i) (2 * a) := nodeP_lev xs i _ (by rw [← HN.out.1]; omega)
          have e2 : nodeP xs i (2 * a + 1) = rdH (lev xs i) (2 * a + 1) := nodeP_lev xs i _ (by rw [← HN.out.1]; omega)
          obtain ⟨p, hp⟩ : ∃ p, nodeP xs i (2 * a) = p := ⟨_, rfl⟩
          obtain ⟨q, hq⟩ : ∃ p, nodeP xs i (2 * a + 1) = p := ⟨_, rfl⟩
          rw [hp] at n1 e1
          have N2 := Lib.hid (show ∀ u : World, Kd.C kH u A n xs → Calls Tryd.prog 53 #[.slice A n c, .int .i64 (i : Int), .int .i64 (2 * (a : Int) + 1)] u fun e w' => e = .returned (.agg (nums .u8 q).toArray) ∧ Below u.heap.size u w' from fun u hu => by
            have h := n2 u hu
            rw [hq, show ((2 * a + 1 : Nat) : Int) = 2 * (a : Int) + 1 by simp] at h
            exact h)
          rw [hq] at e2
          have hps : p.length = 32 := by rw [e1]; exact ((lev_Hs HN.out.2.2.2.2 i).any _).1
          have hqs : q.length = 32 := by rw [e2]; exact ((lev_Hs HN.out.2.2.2.2 i).any _).1
          have q0 := fun u => eqR p q hps hqs u
          have HE := Lib.hid (And.intro e1 e2)
          obtain ⟨P, hP⟩ : ∃ P, (nums .u8 p).toArray = P := ⟨_, rfl⟩
          obtain ⟨Q, hQ⟩ : ∃ P, (nums .u8 q).toArray = P := ⟨_, rfl⟩
          rw [hP] at n1 q0
          rw [hQ] at N2 q0
          have N1 := Lib.hid n1
          clear n1 n2 e1 e2 hp hq hps hqs hP hQ
          by_cases hpq : p = q
          · have hb : (p == q) = true := by simpa using hpq
            rw [hb] at q0
            have HD := Lib.hid (show doubP xs = true from HN.out.2.2.1 (i + 1) (by omega) (by
              rw [doubAt, H.out.1, Bool.false_or]
              refine List.any_eq_true.2 ⟨a, ?_, ?_⟩
              · have := lev_len xs i
                have := HN.out.1
                simp
                rw [lev_len, ← HN.out.1, hV]
                omega
              · rw [← HE.out.1, ← HE.out.2, hpq]
                simp))
            clear hb hpq
            go_wp2_with fail
            (with_reducible refine N1.out.mono ?_)
            rintro e w5 ⟨rfl, hb5⟩
            have HB5 := Lib.hid (HB3.out.trans (Below.mono hb5 HB3.out.size))
            clear hb5
            go_wp2_with fail
            (with_reducible refine (N2.out _ (Kd.C_below HR.out HB5.out)).mono ?_)
            rintro e w6 ⟨rfl, hb6⟩
            have HB6 := Lib.hid (HB5.out.trans (Below.mono hb6 HB5.out.size))
            clear hb6
            go_wp2_with fail
            go_ret
            exact ⟨by rw [HD.out]; rfl, HB6.out⟩
          · have hb : (p == q) = false := by simpa using hpq
            rw [hb] at q0
            have HNE := Lib.hid (show (rdH (lev xs i) (2 * a + 1) == rdH (lev xs i) (2 * a)) = false by
              rw [← HE.out.1, ← HE.out.2]
              simpa using fun e => hpq e.symm)
            clear hb hpq
            go_wp2_with fail
            (with_reducible refine N1.out.mono ?_)
            rintro e w5 ⟨rfl, hb5⟩
            have HB5 := Lib.hid (HB3.out.trans (Below.mono hb5 HB3.out.size))
            clear hb5
            go_wp2_with fail
            (with_reducible refine (N2.out _ (Kd.C_below HR.out HB5.out)).mono ?_)
            rintro e w6 ⟨rfl, hb6⟩
            have HB6 := Lib.hid (HB5.out.trans (Below.mono hb6 HB5.out.size))
            clear hb6
            go_wp2_with fail
            go_roundw
            case rel => exact ⟨a + 1, by omega, by go_num, Lib.hid ⟨fun j hj => by
              by_cases e : j = a
              · subst e
                exact HNE.out
              · exact H2.out.1 j (by omega), HB6.out⟩⟩
            case measure => simp only [intOf]; omega
        · have g3 : decide (2 * (a : Int) + 1 < (V : Int)) = false := decide_eq_false (by omega)
          have HD := Lib.hid (show doubAt xs (i + 1) = false by
            rw [doubAt, H.out.1, Bool.false_or]
            unfold pairedP
            rw [List.any_eq_false]
            intro k hk
            have h9 : k < (lev xs i).length / 2 := by simpa using hk
            rw [lev_len, ← HN.out.1, hV] at h9
            rw [H2.out.1 k (by omega)]
            simp)
          go_wp2_with fail
          go_roundw
          case rel => exact ⟨i + 1, by omega, by go_num, Lib.hid ⟨HD.out, HB3.out⟩⟩
          case measure => simp only [intOf]; omega
    · have g : decide ((i : Int) < (D : Int)) = false := decide_eq_false (by omega)
      have HX := Lib.hid (show doubP xs = false by
        obtain rfl : i = D := by omega
        exact HN.out.2.1.trans H.out.1)
      go_wp2_with fail
      go_ret
      exact ⟨by rw [HX.out]; rfl, HB2.out⟩
end Go.Proofs.YtlmcdkjobdcflaaDoor.Hand
