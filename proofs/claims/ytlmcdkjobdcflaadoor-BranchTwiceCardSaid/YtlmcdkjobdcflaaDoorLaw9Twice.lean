/- The law BranchTwice: walked. -/
import Derived.Test.YtlmcdkjobdcflaaDoorProg
import Derived.Below
import Derived.Deep.Draws
import Derived.Deep.AppendLies
import Derived.Maps.AppendAt
import Derived.OwnWalk
import Derived.Laws.BytesArg
import Derived.Laws.MakeOwn
import Derived.Laws.OwnMore
import Derived.Deep.OwnRows
import Derived.Tactics
import Derived.Lib.ConvBytes
import Derived.Laws.Slices
import Derived.WalkKit
import Derived.KernelRfl
import Derived.RowKit3
import Derived.Deep.LoopGhost
import Derived.Deep.QuietTactic
import Derived.BigQuiet
import Derived.WideLaws
import Derived.Deep.DeepCutAuto
import Derived.Deep.CutBlock
import Derived.Deep.RegionHeld3
import Derived.Laws.Rows
import Derived.Lib.AppendStr
import Derived.ArgAppend
import Derived.Laws.IdiomCopy
import Derived.OrdersHeld
import Derived.Laws.BitsLemmas
import Derived.RowKit
import Derived.StillTailTactics
import Derived.Test.YtlmcdkjobdcflaaDoorWWords
import Derived.Test.YtlmcdkjobdcflaaDoorWLast
import Derived.Test.YtlmcdkjobdcflaaDoorWMore
import Derived.Lib.Hide
import Derived.Outline
import Derived.Deep.MidRow
import Derived.Deep.WholeRow
import Derived.Deep.DrawnRows
import Derived.Test.YtlmcdkjobdcflaaDoorBranA
import Derived.Test.YtlmcdkjobdcflaaDoorMerkC
namespace Go.Proofs.YtlmcdkjobdcflaaDoor.Hand
open Go Go.RowKit Go.Proofs.YtlmcdkjobdcflaaDoor.Plain Go.Proofs.YtlmcdkjobdcflaaDoor.PAll Go.Proofs.YtlmcdkjobdcflaaDoorW.PrintWords Go.Proofs.YtlmcdkjobdcflaaDoorW.PrintLast Go.Proofs.YtlmcdkjobdcflaaDoorW.PrintMore
set_option linter.unusedVariables false
set_option linter.unusedSimpArgs false
set_option maxRecDepth 100000
attribute [local go_sem ↓] Go.wp_at_zero Go.wp_at_succ
attribute [-go_sem] loadVar storeVar Instr.buildSlice
set_option maxHeartbeats 4000000 in
theorem twice9_calls (A : Option Addr) (n c : Nat) (xs : List (List Int)) (w : World) (hn : n = xs.length) (hr : Kd.C kH w A n xs) (hc : n ≤ c) (hH : Hs xs) (hK : KT w) :
    Calls Tryd.prog 13 #[.slice A n c] w fun e w' => e = .returned (.bool true) ∧ Below w.heap.size w w' := by
  have hm := Kd.C_max hr
  have HAW := Lib.hid (fun (u : World) (hu : Below w.heap.size w u) => awake9_calls u (hK.below hu (Nat.le_refl _)))
  obtain h1 | h1 | hl : 19 < n ∨ (¬ 19 < n ∧ n % 2 = 0) ∨ ¬ (19 < n ∨ n % 2 = 0) := by omega
  · clear hn hr hH hK
    have f0 : (19 : Int) < (n : Int) := by omega
    go_enter Tryd.func13, Tryd.ntmps13
    go_wp2_with fail
    refine (HAW.out _ (Below.refl _ _)).mono ?_
    rintro e w1 ⟨rfl, hb⟩
    go_wp2_with fail
    go_ret
    exact ⟨rfl, hb⟩
  · clear hn hr hH hK
    have f0 : ¬ (19 : Int) < (n : Int) := by omega
    have f1 : (n : Int) % 2 = 0 := by omega
    go_enter Tryd.func13, Tryd.ntmps13
    go_wp2_with fail
    refine (HAW.out _ (Below.refl _ _)).mono ?_
    rintro e w1 ⟨rfl, hb⟩
    go_wp2_with fail
    go_ret
    exact ⟨rfl, hb⟩
  · obtain ⟨b, o, rfl, hbl, hrg⟩ := C_hash (by rw [← hn]; exact hr) (by omega)
    obtain ⟨hp, hp32⟩ := hrg (n - 1) (by omega)
    have hpb := hH.any (n - 1)
    have hH2 : Hs (xs ++ [rdH xs (n - 1)]) := by
      intro q hq
      rcases List.mem_append.1 hq with hq | hq
      · exact hH q hq
      · obtain rfl : q = rdH xs (n - 1) := by simpa using hq
        exact hpb
    have hlen : (xs ++ [rdH xs (n - 1)]).length = n + 1 := by rw [List.length_append, List.length_singleton, ← hn]
    obtain ⟨d, hd⟩ := depth_ex (n + 1)
    have hck := checkP_twice hn.symm (by omega) (by omega) hd
    have hlast : rdH (xs ++ [rdH xs (n - 1)]) n = rdH xs (n - 1) := by rw [hn]; exact rdH_last
    rw [hlast] at hck
    obtain ⟨p, hpe⟩ : ∃ p, rdH xs (n - 1) = p := ⟨_, rfl⟩
    rw [hpe] at hp hp32 hpb hck hlast hlen hH2
    obtain ⟨ys, hys⟩ : ∃ ys, xs ++ [p] = ys := ⟨_, rfl⟩
    rw [hys] at hck hlast hlen hH2
    obtain ⟨P, hP⟩ : ∃ P, nums .u8 p = P := ⟨_, rfl⟩
    rw [hP] at hp
    have hPl : P.length = 32 := by rw [← hP, nums_len]; exact hp32
    have HMK := Lib.hid (fun (A2 : Option Addr) (c2 : Nat) (u : World) (hr2 : Kd.C kH u A2 (n + 1) ys) (hc2 : n + 1 ≤ c2) (hu : Below w.heap.size w u) => (show Calls Tryd.prog 30 #[.slice A2 (n + 1) c2, .int .i64 (n : Int)] u fun e w' => ∃ A3 c3, e = .returned (.tuple #[.agg #[.int .i64 ((n : Int) + 1), .int .i64 (n : Int), .slice A3 d c3], .int .i64 0]) ∧ d ≤ c3 ∧ Kd.C kH w' A3 d (pathF d ys n) ∧ Below u.heap.size u w' from by
      have h := make_calls A2 (n + 1) c2 ys n d u hlen.symm hr2 hc2 (by omega) hH2 (by omega) hd (hK.below hu (Nat.le_refl _))
      unfold bV at h
      rw [show ((n + 1 : Nat) : Int) = (n : Int) + 1 from by omega] at h
      exact h))
    have HRM := Lib.hid (fun (A2 : Option Addr) (c2 : Nat) (u : World) (hr2 : Kd.C kH u A2 (n + 1) ys) (hc2 : n + 1 ≤ c2) (hu : Below w.heap.size w u) => root_calls A2 (n + 1) c2 ys u hlen.symm hr2 hc2 (by omega) hH2 (hK.below hu (Nat.le_refl _)))
    have HCK := Lib.hid (fun (A3 : Option Addr) (c3 : Nat) (u : World) (hr3 : Kd.C kH u A3 d (pathF d ys n)) (hc3 : d ≤ c3) (hu : Below w.heap.size w u) => (show Calls Tryd.prog 33 #[.agg #[.int .i64 ((n : Int) + 1), .int .i64 (n : Int), .slice A3 d c3], .agg (nums .u8 (rootP ys)).toArray, .agg P.toArray] u fun e w' => e = .returned (.int .i64 15) ∧ Below u.heap.size u w' from by
      have h := check_calls ((n + 1 : Nat) : Int) (n : Int) A3 d c3 (pathF d ys n) (rootP ys) p u (pathF_len _ _ _).symm hr3 hc3 (pathF_Hs d ys n hH2) (rootP_hash hH2).1 hp32 hpb.2 (hK.below hu (Nat.le_refl _)) (by omega) (by omega)
      rw [hck, hP] at h
      unfold bV at h
      rw [show ((n + 1 : Nat) : Int) = (n : Int) + 1 from by omega] at h
      exact h))
    have HRG := Lib.hid (fun (A4 : Option Addr) (u : World) (hr4 : Kd.C kH u A4 (n + 1) ys) => (show ∃ b4 o4, A4 = some ⟨b4, o4, none⟩ ∧ b4 < u.heap.size ∧ u.rangeAt b4 (o4 + n * 32) P from by
      obtain ⟨b4, o4, rfl, hlt, hrg⟩ := C_hash (w := u) (A := A4) (xs := ys) (by rw [hlen]; exact hr4) (by omega)
      have h := (hrg n (by omega)).1
      rw [hlast, hP] at h
      exact ⟨b4, o4, rfl, hlt, h⟩))
    have hzb := (zero_of_info infoB9).1
    have HI9 := Lib.hid (And.intro Tryd.underlying41 (zero_of_info infoB9).2)
    obtain ⟨R, hR⟩ : ∃ R, (nums .u8 (rootP ys)).toArray = R := ⟨_, rfl⟩
    rw [hR] at HRM HCK
    have HRX := Lib.hid (fun (u : World) (hu : Below w.heap.size w u) => Kd.C_below hr hu)
    have HS := Lib.hid (fun (u : World) (hu : Below w.heap.size w u) => range_below hu hbl hp)
    have hu := Tryd.underlying25
    have hi1 : (Tryd.prog.info? 25).map (·.size) = some P.length := by rw [hPl]; exact (zero_of_info infoHash).2
    have hbs := fun u => run_hash1 p hp32 u
    rw [hP] at hbs
    have HC1 := Lib.hid (fun (u : World) (g : Nat) (hg : u.heap[g]? = some (.cells P.toArray 25 (0, 0))) => (show Kd.C kH u (some ⟨g, 0, none⟩) 1 [p] from C_hash1 hp32 (by rw [hP]; exact hg)))
    have HE := Lib.hid (fun (u : World) (h : w.heap.size ≤ u.heap.size) => empty_row w u h)
    have hb0 := fun u => run_build0 u
    have HLL := Lib.hid (show (0 + n) * 32 ≤ 140737488355328 ∧ (xs.length + 1) * 32 ≤ 140737488355328 by omega)
    have HYS := Lib.hid (And.intro hys hlen)
    have g0 : ¬ (19 : Int) < (n : Int) := by omega
    have g1 : ¬ (n : Int) % 2 = 0 := by omega
    obtain ⟨j, hj⟩ : ∃ j, n - 1 = j := ⟨_, rfl⟩
    have hw1 : IntKind.i64.wrap (j : Int) = (j : Int) := IntWalk.i64_in _ (by omega)
    have hj1 : (n : Int) - 1 = (j : Int) := by omega
    have g3 : (0 : Int) ≤ (j : Int) := by omega
    have g4 : (j : Int) < (n : Int) := by omega
    rw [hj] at HS
    clear hn hr hH hK hR hpe hP hPl hp hpb hp32 hlen hrg hbl hH2 hj hys hd hck hlast
    go_enter Tryd.func13, Tryd.ntmps13
    go_wp2_with fail
    have hHeld := HS.out _ (below_drew (Below.refl w.heap.size w))
    refine wp_region_held (S := fun u => u.rangeAt b (o + j * 32) P) (by kernel_rfl) ?_
    change wpAnyH _ _ _ _ _ _ _ _ (World.drew _)
    refine wpAnyH_take (i := 1) (oi := ({ dst := some 17, op := Op.move (Operand.tmp 0), type := 22, pos := "law.go:143", after := #[], guard := none } : Oper)) (v := .slice (some ⟨b, o, none⟩) n c) rfl (by kernel_rfl) (by kernel_rfl) (by kernel_rfl) (fun _ _ _ h => h) (Or.inl ⟨by rfl, fun w hSw => by go_simp⟩) hHeld ?_
    simp only [Act.put, List.setIfInBounds_toArray, List.set_cons_zero, List.set_cons_succ]
    refine wpAnyH_take (i := 3) (oi := ({ dst := some 19, op := Op.move (Operand.tmp 0), type := 22, pos := "law.go:143", after := #[], guard := none } : Oper)) (v := .slice (some ⟨b, o, none⟩) n c) rfl (by kernel_rfl) (by kernel_rfl) (by kernel_rfl) (fun _ _ _ h => h) (Or.inl ⟨by rfl, fun w hSw => by go_simp⟩) hHeld ?_
    simp only [Act.put, List.setIfInBounds_toArray, List.set_cons_zero, List.set_cons_succ]
    refine wpAnyH_take (i := 4) (oi := ({ dst := some 20, op := Op.move (Operand.tmp 0), type := 22, pos := "law.go:143", after := #[], guard := none } : Oper)) (v := .slice (some ⟨b, o, none⟩) n c) rfl (by kernel_rfl) (by kernel_rfl) (by kernel_rfl) (fun _ _ _ h => h) (Or.inl ⟨by rfl, fun w hSw => by go_simp⟩) hHeld ?_
    simp only [Act.put, List.setIfInBounds_toArray, List.set_cons_zero, List.set_cons_succ]
    refine wpAnyH_take (i := 5) (oi := ({ dst := some 21, op := Op.call { callee := Callee.builtin Builtin.len, args := #[Operand.tmp 20], argTypes := #[22] }, type := 3, pos := "law.go:143", after := #[{ on := 4, ground := Ground.data }], guard := none } : Oper)) (v := .int .i64 (n : Int)) rfl (by kernel_rfl) (by kernel_rfl) (by kernel_rfl) (fun _ _ _ h => h) (Or.inl ⟨by rfl, fun w hSw => by go_simp⟩) hHeld ?_
    simp only [Act.put, List.setIfInBounds_toArray, List.set_cons_zero, List.set_cons_succ]
    refine wpAnyH_take (i := 6) (oi := ({ dst := some 22, op := Op.binOp BinOp.sub 3 (Operand.tmp 21) (Operand.const (Value.int IntKind.i64 1)) 3, type := 3, pos := "law.go:143", after := #[{ on := 5, ground := Ground.data }], guard := none } : Oper)) (v := .int .i64 (j : Int)) rfl (by kernel_rfl) (by kernel_rfl) (by kernel_rfl) (fun _ _ _ h => h) (Or.inl ⟨by rfl, fun w hSw => by go_simp⟩) hHeld ?_
    simp only [Act.put, List.setIfInBounds_toArray, List.set_cons_zero, List.set_cons_succ]
    refine wpAnyH_take (i := 7) (oi := ({ dst := some 23, op := Op.indexAddr 22 (Operand.tmp 19) (Operand.tmp 22), type := 0, pos := "law.go:143", after := #[{ on := 3, ground := Ground.data }, { on := 6, ground := Ground.data }], guard := none } : Oper)) (v := .pointer (some ⟨b, o + j * 32, none⟩)) rfl (by kernel_rfl) (by kernel_rfl) (by kernel_rfl) (fun _ _ _ h => h) (Or.inl ⟨by rfl, fun w hSw => by go_simp⟩) hHeld ?_
    simp only [Act.put, List.setIfInBounds_toArray, List.set_cons_zero, List.set_cons_succ]
    refine wpAnyH_take (i := 8) (oi := ({ dst := some 24, op := Op.load 25 (Operand.tmp 23), type := 25, pos := "law.go:143", after := #[{ on := 7, ground := Ground.data }], guard := none } : Oper)) (v := .agg P.toArray) rfl (by kernel_rfl) (by kernel_rfl) (by kernel_rfl) (fun _ _ _ h => h) (yieldsIf_load_mid (by rfl) _ _ rfl b (o + j * 32) rfl P _ (fun _ h => h) hu rfl hi1) hHeld ?_
    simp only [Act.put, List.setIfInBounds_toArray, List.set_cons_zero, List.set_cons_succ]
    refine wpAnyH_ready (rs := [0, 9]) (by kernel_rfl) (by simp) ?_
    refine AllReadyH.cons (o := ({ dst := some 16, op := Op.buildSlice 22 0 #[], type := 22, pos := "law.go:143", after := #[], guard := none } : Oper)) rfl (fun K hK => ?_) (AllReadyH.cons (o := ({ dst := some 25, op := Op.buildSlice 22 1 #[(0, Operand.tmp 24)], type := 22, pos := "law.go:143", after := #[{ on := 8, ground := Ground.data }], guard := none } : Oper)) rfl (fun K hK => ?_) AllReadyH.nil)
    · skip
      go_simp
      refine hK.out _ _ (HS.out _ (below_alloc (below_drew (Below.refl w.heap.size w)) (.cells #[] 25))) (fun hHeld => ?_)
      clear hK K
      try simp only [Act.put, List.setIfInBounds_toArray, List.set_cons_zero, List.set_cons_succ]
      refine wpAnyH_ready (rs := [2, 9]) (by kernel_rfl) (by simp) ?_
      refine AllReadyH.cons (o := ({ dst := some 18, op := Op.call { callee := Callee.builtin Builtin.append, args := #[Operand.tmp 16, Operand.tmp 17], argTypes := #[22, 22] }, type := 22, pos := "law.go:143", after := #[{ on := 0, ground := Ground.data }, { on := 1, ground := Ground.data }], guard := none } : Oper)) rfl (fun K hK => ?_) (AllReadyH.cons (o := ({ dst := some 25, op := Op.buildSlice 22 1 #[(0, Operand.tmp 24)], type := 22, pos := "law.go:143", after := #[{ on := 8, ground := Ground.data }], guard := none } : Oper)) rfl (fun K hK => ?_) AllReadyH.nil)
      · skip
        refine Kd.R_append_rows_step kH (w0 := w) w.heap.size (by rfl) (.tmp 16) (.tmp 17) 22 25 (.agg (nums .u8 (List.replicate 32 0)).toArray) 32 (by rfl) Tryd.underlying22 infoH3 rfl (by decide) (by decide) _ [] xs (some ⟨b, o, none⟩) n c (fun _ => True) (fun _ => False) (by rfl) (by rfl) (HE.out _ (Nat.le_refl _)) (HRX.out _ (below_alloc (below_drew (Below.refl w.heap.size w)) (.cells #[] 25))) (fun _ _ h => kH_move h) (fun _ h => h.elim) (fun _ _ => trivial) (below_alloc (below_drew (Below.refl w.heap.size w)) (.cells #[] 25)) (below_alloc (below_drew (Below.refl w.heap.size w)) (.cells #[] 25)).size HLL.out.1 ?_
        intro v3 w3 ho hb hg hat
        have HR3 := Lib.hid ho
        have HB3 := Lib.hid hb
        have HG3 := Lib.hid hg
        clear ho hb hg hat
        refine hK.out _ _ (HS.out _ HB3.out) (fun hHeld => ?_)
        clear hK K
        try simp only [Act.put, List.setIfInBounds_toArray, List.set_cons_zero, List.set_cons_succ]
        refine wpAnyH_ready (rs := [9]) (by kernel_rfl) (by simp) ?_
        refine AllReadyH.cons (o := ({ dst := some 25, op := Op.buildSlice 22 1 #[(0, Operand.tmp 24)], type := 22, pos := "law.go:143", after := #[{ on := 8, ground := Ground.data }], guard := none } : Oper)) rfl (fun K hK => ?_) AllReadyH.nil
        go_simp
        refine hK.out _ _ (HS.out _ (below_alloc (HB3.out) (.cells P.toArray 25))) (fun hHeld => ?_)
        clear hK K
        try simp only [Act.put, List.setIfInBounds_toArray, List.set_cons_zero, List.set_cons_succ]
        refine wpAnyH_ready (rs := [10]) (by kernel_rfl) (by simp) ?_
        refine AllReadyH.cons (o := ({ dst := some 26, op := Op.call { callee := Callee.builtin Builtin.append, args := #[Operand.tmp 18, Operand.tmp 25], argTypes := #[22, 22] }, type := 22, pos := "law.go:143", after := #[{ on := 2, ground := Ground.data }, { on := 9, ground := Ground.data }, { on := 2, ground := Ground.chain }], guard := none } : Oper)) rfl (fun K hK => ?_) AllReadyH.nil
        refine Kd.R_append_rows_step kH (w0 := w) w.heap.size (by rfl) (.tmp 18) (.tmp 25) 22 25 (.agg (nums .u8 (List.replicate 32 0)).toArray) 32 (by rfl) Tryd.underlying22 infoH3 rfl (by decide) (by decide) v3 xs [p] (some ⟨w3.heap.size, 0, none⟩) 1 1 (fun _ => True) (fun _ => False) (by rfl) (by rfl) (Kd.R_alloc HR3.out _) (HC1.out _ _ (heap_alloc_new w3 _)) (fun _ _ h => kH_move h) (fun _ h => h.elim) (fun _ _ => trivial) (below_alloc (HB3.out) (.cells P.toArray 25)) (below_alloc (HB3.out) (.cells P.toArray 25)).size HLL.out.2 ?_
        intro v4 w4 ho hb hg hat
        have HR4 := Lib.hid ho
        have HB4 := Lib.hid hb
        have HG4 := Lib.hid hg
        clear ho hb hg hat
        refine hK.out _ _ (HS.out _ HB4.out) (fun hHeld => ?_)
        clear hK K
        try simp only [Act.put, List.setIfInBounds_toArray, List.set_cons_zero, List.set_cons_succ]
        refine wpAnyH_take (i := 11) (oi := ({ dst := some 3, op := Op.assign (Operand.tmp 26), type := 22, pos := "law.go:143", after := #[{ on := 10, ground := Ground.data }, { on := 10, ground := Ground.chain }, { on := 0, ground := Ground.phase }, { on := 1, ground := Ground.phase }, { on := 2, ground := Ground.phase }, { on := 3, ground := Ground.phase }, { on := 4, ground := Ground.phase }, { on := 5, ground := Ground.phase }, { on := 6, ground := Ground.phase }, { on := 7, ground := Ground.phase }, { on := 8, ground := Ground.phase }, { on := 9, ground := Ground.phase }, { on := 10, ground := Ground.phase }], guard := none } : Oper)) (v := v4) rfl (by kernel_rfl) (by kernel_rfl) (by kernel_rfl) (fun _ _ _ h => h) (Or.inl ⟨by rfl, fun w hSw => by go_simp⟩) hHeld ?_
        simp only [Act.put, List.setIfInBounds_toArray, List.set_cons_zero, List.set_cons_succ]
        refine wpAnyH_done (by kernel_rfl) ?_ _
        clear hbs hb0 hHeld hw1
        obtain ⟨A4, c4, rfl, hc4, hC4⟩ := Kd.R_reads HR4.out
        rw [HYS.out.1, HYS.out.2] at hc4 hC4
        rw [HYS.out.1, HYS.out.2]
        obtain ⟨b4, o4, rfl, hlt4, hrg4⟩ := HRG.out A4 w4 hC4
        have HMK4 := Lib.hid (HMK.out (some ⟨b4, o4, none⟩) c4 w4 hC4 hc4 HB4.out)
        have HX4 := Lib.hid (And.intro hC4 (And.intro hc4 (And.intro hlt4 hrg4)))
        clear hC4 hc4 hlt4 hrg4 HG3 HG4 HR3 HR4 HMK HRG
        go_wp2_with fail
        refine HMK4.out.mono ?_
        rintro e w5 ⟨A5, c5, rfl, hc5, hC5, hb5⟩
        have hk6 := heap_alloc_new w5 (.cells #[.int .i64 ((n : Int) + 1), .int .i64 (n : Int), .slice A5 d c5] 41)
        have hb6 := below_alloc (Below.refl w5.heap.size w5) (.cells #[.int .i64 ((n : Int) + 1), .int .i64 (n : Int), .slice A5 d c5] 41)
        obtain ⟨W6, hW6⟩ : ∃ W, w5.alloc (.cells #[.int .i64 ((n : Int) + 1), .int .i64 (n : Int), .slice A5 d c5] 41) = W := ⟨_, rfl⟩
        rw [hW6] at hk6 hb6
        have hs6 := hb6.size
        have HB46 := Lib.hid (hb5.trans (Below.mono hb6 hb5.size))
        have HB6 := Lib.hid (HB4.out.trans (Below.mono HB46.out HB4.out.size))
        have HSS := Lib.hid (show ∀ u : World, Below W6.heap.size W6 u → u.rangeAt b4 (o4 + n * 32) P ∧ (loadVar 41 ⟨w5.heap.size, 0, none⟩).run Tryd.prog u = .ok (.agg #[.int .i64 ((n : Int) + 1), .int .i64 (n : Int), .slice A5 d c5]) u from fun u h => by
          have h9 := (h.block _ (blk_lt hk6)).trans hk6
          exact ⟨range_below (HB46.out.trans (Below.mono h HB46.out.size)) HX4.out.2.2.1 HX4.out.2.2.2, run_loadVar_row (P := Tryd.prog) u w5.heap.size 41 41 _ (0, 0) _ h9 HI9.out.1 rfl HI9.out.2⟩)
        have HCC := Lib.hid (show ∀ u : World, Below W6.heap.size W6 u → Kd.C kH u A5 d (pathF d ys n) ∧ Kd.C kH u (some ⟨b4, o4, none⟩) (n + 1) ys ∧ Below w.heap.size w u from fun u h =>
          ⟨Kd.C_below hC5 (hb6.trans (Below.mono h hs6)), Kd.C_below HX4.out.1 (HB46.out.trans (Below.mono h HB46.out.size)), HB6.out.trans (Below.mono h HB6.out.size)⟩)
        have HC5 := Lib.hid hc5
        have HW6 := Lib.hid hW6
        clear hk6 hb6 hs6 hW6 hC5 hc5 hb5
        go_wp2_with ((with_reducible show wpList _ _ _ (Oper.mk _ (Op.store _ (.tmp 4) _) _ _ _ _ :: _) _ _); (go_loud (refine wpl_store_new rfl 41 (.tmp 4) (.tmp 32) rfl #[.int .i64 0, .int .i64 0, .slice none 0 0] #[.int .i64 ((n : Int) + 1), .int .i64 (n : Int), .slice A5 d c5] rfl rfl HI9.out.2 rfl (by simp [Value.oneCell']) ?_)))
        rw [HW6.out]
        have HBD := Lib.hid (below_drew (Below.refl W6.heap.size W6))
        have HTR := Lib.hid (show ∀ u u' : World, Below W6.heap.size W6 u → Below u.heap.size u u' → Below W6.heap.size W6 u' from fun u u' hu hu' => hu.trans (Below.mono hu' hu.size))
        refine wp_region_held (S := fun u => u.rangeAt b4 (o4 + n * 32) P ∧ (loadVar 41 ⟨w5.heap.size, 0, none⟩).run Tryd.prog u = .ok (.agg #[.int .i64 ((n : Int) + 1), .int .i64 (n : Int), .slice A5 d c5]) u) (by kernel_rfl) ?_
        change wpAnyH _ _ _ _ _ _ _ _ (World.drew _)
        have hHeld := HSS.out _ HBD.out
        refine wpAnyH_take (i := 0) (oi := ({ dst := some 34, op := Op.move (Operand.tmp 5), type := 42, pos := "law.go:145", after := #[], guard := none } : Oper)) (v := .int .i64 0) rfl (by kernel_rfl) (by kernel_rfl) (by kernel_rfl) (fun _ _ _ h => h) (Or.inl ⟨by rfl, fun w hSw => by go_simp⟩) hHeld ?_
        simp only [Act.put, List.setIfInBounds_toArray, List.set_cons_zero, List.set_cons_succ]
        refine wpAnyH_take (i := 1) (oi := ({ dst := some 35, op := Op.binOp BinOp.eql 42 (Operand.tmp 34) (Operand.const (Value.int IntKind.i64 0)) 42, type := 4, pos := "law.go:145", after := #[{ on := 0, ground := Ground.data }], guard := none } : Oper)) (v := .bool true) rfl (by kernel_rfl) (by kernel_rfl) (by kernel_rfl) (fun _ _ _ h => h) (Or.inl ⟨by rfl, fun w hSw => by go_simp⟩) hHeld ?_
        simp only [Act.put, List.setIfInBounds_toArray, List.set_cons_zero, List.set_cons_succ]
        refine wpAnyH_take (i := 2) (oi := ({ dst := some 36, op := Op.move (Operand.tmp 35), type := 4, pos := "law.go:145", after := #[{ on := 1, ground := Ground.data }], guard := none } : Oper)) (v := .bool true) rfl (by kernel_rfl) (by kernel_rfl) (by kernel_rfl) (fun _ _ _ h => h) (Or.inl ⟨by rfl, fun w hSw => by go_simp⟩) hHeld ?_
        simp only [Act.put, List.setIfInBounds_toArray, List.set_cons_zero, List.set_cons_succ]
        refine wpAnyH_take (i := 3) (oi := ({ dst := some 37, op := Op.load 41 (Operand.tmp 4), type := 41, pos := "law.go:145", after := #[{ on := 2, ground := Ground.guard }], guard := some (2, true) } : Oper)) (v := .agg #[.int .i64 ((n : Int) + 1), .int .i64 (n : Int), .slice A5 d c5]) rfl (by kernel_rfl) (by kernel_rfl) (by kernel_rfl) (fun _ _ _ h => h) (Or.inl ⟨by rfl, fun w hSw => by obtain ⟨z0, z1⟩ := hSw; go_simp⟩) hHeld ?_
        simp only [Act.put, List.setIfInBounds_toArray, List.set_cons_zero, List.set_cons_succ]
        refine wpAnyH_take (i := 4) (oi := ({ dst := some 38, op := Op.move (Operand.tmp 3), type := 22, pos := "law.go:145", after := #[{ on := 2, ground := Ground.guard }], guard := some (2, true) } : Oper)) (v := .slice (some ⟨b4, o4, none⟩) (n + 1) c4) rfl (by kernel_rfl) (by kernel_rfl) (by kernel_rfl) (fun _ _ _ h => h) (Or.inl ⟨by rfl, fun w hSw => by go_simp⟩) hHeld ?_
        simp only [Act.put, List.setIfInBounds_toArray, List.set_cons_zero, List.set_cons_succ]
        refine wpAnyH_take (i := 6) (oi := ({ dst := some 40, op := Op.move (Operand.tmp 3), type := 22, pos := "law.go:145", after := #[{ on := 2, ground := Ground.guard }], guard := some (2, true) } : Oper)) (v := .slice (some ⟨b4, o4, none⟩) (n + 1) c4) rfl (by kernel_rfl) (by kernel_rfl) (by kernel_rfl) (fun _ _ _ h => h) (Or.inl ⟨by rfl, fun w hSw => by go_simp⟩) hHeld ?_
        simp only [Act.put, List.setIfInBounds_toArray, List.set_cons_zero, List.set_cons_succ]
        refine wpAnyH_take (i := 7) (oi := ({ dst := some 41, op := Op.move (Operand.tmp 0), type := 22, pos := "law.go:145", after := #[{ on := 2, ground := Ground.guard }], guard := some (2, true) } : Oper)) (v := .slice (some ⟨b, o, none⟩) n c) rfl (by kernel_rfl) (by kernel_rfl) (by kernel_rfl) (fun _ _ _ h => h) (Or.inl ⟨by rfl, fun w hSw => by go_simp⟩) hHeld ?_
        simp only [Act.put, List.setIfInBounds_toArray, List.set_cons_zero, List.set_cons_succ]
        refine wpAnyH_take (i := 8) (oi := ({ dst := some 42, op := Op.call { callee := Callee.builtin Builtin.len, args := #[Operand.tmp 41], argTypes := #[22] }, type := 3, pos := "law.go:145", after := #[{ on := 7, ground := Ground.data }, { on := 2, ground := Ground.guard }], guard := some (2, true) } : Oper)) (v := .int .i64 (n : Int)) rfl (by kernel_rfl) (by kernel_rfl) (by kernel_rfl) (fun _ _ _ h => h) (Or.inl ⟨by rfl, fun w hSw => by go_simp⟩) hHeld ?_
        simp only [Act.put, List.setIfInBounds_toArray, List.set_cons_zero, List.set_cons_succ]
        refine wpAnyH_take (i := 9) (oi := ({ dst := some 43, op := Op.indexAddr 22 (Operand.tmp 40) (Operand.tmp 42), type := 0, pos := "law.go:145", after := #[{ on := 6, ground := Ground.data }, { on := 8, ground := Ground.data }, { on := 2, ground := Ground.guard }], guard := some (2, true) } : Oper)) (v := .pointer (some ⟨b4, o4 + n * 32, none⟩)) rfl (by kernel_rfl) (by kernel_rfl) (by kernel_rfl) (fun _ _ _ h => h) (Or.inl ⟨by rfl, fun w hSw => by go_simp; intro h; omega⟩) hHeld ?_
        simp only [Act.put, List.setIfInBounds_toArray, List.set_cons_zero, List.set_cons_succ]
        refine wpAnyH_take (i := 10) (oi := ({ dst := some 44, op := Op.load 25 (Operand.tmp 43), type := 25, pos := "law.go:145", after := #[{ on := 9, ground := Ground.data }, { on := 2, ground := Ground.guard }], guard := some (2, true) } : Oper)) (v := .agg P.toArray) rfl (by kernel_rfl) (by kernel_rfl) (by kernel_rfl) (fun _ _ _ h => h) (yieldsIf_load_mid (by rfl) _ _ rfl b4 (o4 + n * 32) rfl P _ (fun _ h => h.1) hu rfl hi1) hHeld ?_
        simp only [Act.put, List.setIfInBounds_toArray, List.set_cons_zero, List.set_cons_succ]
        refine wpAnyH_ready (rs := [5]) (by kernel_rfl) (by simp) ?_
        refine AllReadyH.cons (o := ({ dst := some 39, op := Op.call { callee := Callee.value (Operand.func 20), args := #[Operand.tmp 38], argTypes := #[22] }, type := 25, pos := "law.go:145", after := #[{ on := 4, ground := Ground.data }, { on := 2, ground := Ground.chain }, { on := 2, ground := Ground.guard }], guard := some (2, true) } : Oper)) rfl (fun K hK => ?_) AllReadyH.nil
        go_simp
        (with_reducible refine (HRM.out (some ⟨b4, o4, none⟩) c4 _ (HCC.out _ HBD.out).2.1 HX4.out.2.1 (HCC.out _ HBD.out).2.2).mono ?_)
        rintro e w7 ⟨rfl, hb7⟩
        have HB7 := Lib.hid (HTR.out _ _ HBD.out hb7)
        clear hb7
        go_wp2_with fail
        refine hK.out _ _ (HSS.out _ HB7.out) (fun hHeld => ?_)
        clear hK K
        try simp only [Act.put, List.setIfInBounds_toArray, List.set_cons_zero, List.set_cons_succ]
        refine wpAnyH_ready (rs := [11]) (by kernel_rfl) (by simp) ?_
        refine AllReadyH.cons (o := ({ dst := some 45, op := Op.call { callee := Callee.value (Operand.func 33), args := #[Operand.tmp 37, Operand.tmp 39, Operand.tmp 44], argTypes := #[41, 25, 25] }, type := 42, pos := "law.go:145", after := #[{ on := 3, ground := Ground.data }, { on := 5, ground := Ground.data }, { on := 10, ground := Ground.data }, { on := 5, ground := Ground.chain }, { on := 2, ground := Ground.guard }], guard := some (2, true) } : Oper)) rfl (fun K hK => ?_) AllReadyH.nil
        go_simp
        (with_reducible refine (HCK.out A5 c5 _ (HCC.out _ HB7.out).1 HC5.out (HCC.out _ HB7.out).2.2).mono ?_)
        rintro e w8 ⟨rfl, hb8⟩
        have HB8 := Lib.hid (HTR.out _ _ HB7.out hb8)
        clear hb8
        go_wp2_with fail
        refine hK.out _ _ (HSS.out _ HB8.out) (fun hHeld => ?_)
        clear hK K
        try simp only [Act.put, List.setIfInBounds_toArray, List.set_cons_zero, List.set_cons_succ]
        refine wpAnyH_take (i := 12) (oi := ({ dst := some 46, op := Op.binOp BinOp.eql 42 (Operand.tmp 45) (Operand.const (Value.int IntKind.i64 15)) 42, type := 4, pos := "law.go:145", after := #[{ on := 11, ground := Ground.data }, { on := 2, ground := Ground.guard }], guard := some (2, true) } : Oper)) (v := .bool true) rfl (by kernel_rfl) (by kernel_rfl) (by kernel_rfl) (fun _ _ _ h => h) (Or.inl ⟨by rfl, fun w hSw => by go_simp⟩) hHeld ?_
        simp only [Act.put, List.setIfInBounds_toArray, List.set_cons_zero, List.set_cons_succ]
        refine wpAnyH_take (i := 13) (oi := ({ dst := some 47, op := Op.pick (Operand.tmp 36) (Operand.tmp 46) (Operand.const (Value.bool false)), type := 4, pos := "law.go:145", after := #[{ on := 2, ground := Ground.data }, { on := 12, ground := Ground.data }], guard := none } : Oper)) (v := .bool true) rfl (by kernel_rfl) (by kernel_rfl) (by kernel_rfl) (fun _ _ _ h => h) (Or.inl ⟨by rfl, fun w hSw => by go_simp⟩) hHeld ?_
        simp only [Act.put, List.setIfInBounds_toArray, List.set_cons_zero, List.set_cons_succ]
        refine wpAnyH_take (i := 14) (oi := ({ dst := some 48, op := Op.move (Operand.tmp 47), type := 4, pos := "law.go:145", after := #[{ on := 13, ground := Ground.data }, { on := 11, ground := Ground.chain }], guard := none } : Oper)) (v := .bool true) rfl (by kernel_rfl) (by kernel_rfl) (by kernel_rfl) (fun _ _ _ h => h) (Or.inl ⟨by rfl, fun w hSw => by go_simp⟩) hHeld ?_
        simp only [Act.put, List.setIfInBounds_toArray, List.set_cons_zero, List.set_cons_succ]
        refine wpAnyH_ready (rs := [15]) (by kernel_rfl) (by simp) ?_
        refine AllReadyH.cons (o := ({ dst := some 49, op := Op.call { callee := Callee.value (Operand.func 29), args := #[], argTypes := #[] }, type := 4, pos := "law.go:145", after := #[{ on := 14, ground := Ground.chain }, { on := 14, ground := Ground.guard }], guard := some (14, true) } : Oper)) rfl (fun K hK => ?_) AllReadyH.nil
        go_simp
        (with_reducible refine (HAW.out _ (HCC.out _ HB8.out).2.2).mono ?_)
        rintro e w9 ⟨rfl, hb9⟩
        have HB9 := Lib.hid (HTR.out _ _ HB8.out hb9)
        clear hb9
        go_wp2_with fail
        refine hK.out _ _ (HSS.out _ HB9.out) (fun hHeld => ?_)
        clear hK K
        try simp only [Act.put, List.setIfInBounds_toArray, List.set_cons_zero, List.set_cons_succ]
        refine wpAnyH_take (i := 16) (oi := ({ dst := some 50, op := Op.pick (Operand.tmp 48) (Operand.tmp 49) (Operand.const (Value.bool false)), type := 4, pos := "law.go:145", after := #[{ on := 14, ground := Ground.data }, { on := 15, ground := Ground.data }], guard := none } : Oper)) (v := .bool true) rfl (by kernel_rfl) (by kernel_rfl) (by kernel_rfl) (fun _ _ _ h => h) (Or.inl ⟨by rfl, fun w hSw => by go_simp⟩) hHeld ?_
        simp only [Act.put, List.setIfInBounds_toArray, List.set_cons_zero, List.set_cons_succ]
        refine wpAnyH_take (i := 17) (oi := ({ dst := some 2, op := Op.assign (Operand.tmp 50), type := 4, pos := "law.go:145", after := #[{ on := 16, ground := Ground.data }, { on := 15, ground := Ground.chain }, { on := 0, ground := Ground.phase }, { on := 1, ground := Ground.phase }, { on := 2, ground := Ground.phase }, { on := 3, ground := Ground.phase }, { on := 4, ground := Ground.phase }, { on := 5, ground := Ground.phase }, { on := 6, ground := Ground.phase }, { on := 7, ground := Ground.phase }, { on := 8, ground := Ground.phase }, { on := 9, ground := Ground.phase }, { on := 10, ground := Ground.phase }, { on := 11, ground := Ground.phase }, { on := 12, ground := Ground.phase }, { on := 13, ground := Ground.phase }, { on := 14, ground := Ground.phase }, { on := 15, ground := Ground.phase }, { on := 16, ground := Ground.phase }], guard := none } : Oper)) (v := .bool true) rfl (by kernel_rfl) (by kernel_rfl) (by kernel_rfl) (fun _ _ _ h => h) (Or.inl ⟨by rfl, fun w hSw => by go_simp⟩) hHeld ?_
        simp only [Act.put, List.setIfInBounds_toArray, List.set_cons_zero, List.set_cons_succ]
        refine wpAnyH_done (by kernel_rfl) ?_ _
        clear hHeld
        go_wp2_with fail
        go_ret
        exact ⟨rfl, (HCC.out _ HB9.out).2.2⟩
      · skip
        go_simp
        refine hK.out _ _ (HS.out _ (below_alloc (below_alloc (below_drew (Below.refl w.heap.size w)) (.cells #[] 25)) (.cells P.toArray 25))) (fun hHeld => ?_)
        clear hK K
        try simp only [Act.put, List.setIfInBounds_toArray, List.set_cons_zero, List.set_cons_succ]
        refine wpAnyH_ready (rs := [2]) (by kernel_rfl) (by simp) ?_
        refine AllReadyH.cons (o := ({ dst := some 18, op := Op.call { callee := Callee.builtin Builtin.append, args := #[Operand.tmp 16, Operand.tmp 17], argTypes := #[22, 22] }, type := 22, pos := "law.go:143", after := #[{ on := 0, ground := Ground.data }, { on := 1, ground := Ground.data }], guard := none } : Oper)) rfl (fun K hK => ?_) AllReadyH.nil
        refine Kd.R_append_rows_step kH (w0 := w) w.heap.size (by rfl) (.tmp 16) (.tmp 17) 22 25 (.agg (nums .u8 (List.replicate 32 0)).toArray) 32 (by rfl) Tryd.underlying22 infoH3 rfl (by decide) (by decide) _ [] xs (some ⟨b, o, none⟩) n c (fun _ => True) (fun _ => False) (by rfl) (by rfl) (Kd.R_alloc (HE.out _ (Nat.le_refl _)) _) (HRX.out _ (below_alloc (below_alloc (below_drew (Below.refl w.heap.size w)) (.cells #[] 25)) (.cells P.toArray 25))) (fun _ _ h => kH_move h) (fun _ h => h.elim) (fun _ _ => trivial) (below_alloc (below_alloc (below_drew (Below.refl w.heap.size w)) (.cells #[] 25)) (.cells P.toArray 25)) (below_alloc (below_alloc (below_drew (Below.refl w.heap.size w)) (.cells #[] 25)) (.cells P.toArray 25)).size HLL.out.1 ?_
        intro v3 w3 ho hb hg hat
        have HR3 := Lib.hid ho
        have HB3 := Lib.hid hb
        have HG3 := Lib.hid hg
        clear ho hb hg hat
        refine hK.out _ _ (HS.out _ HB3.out) (fun hHeld => ?_)
        clear hK K
        try simp only [Act.put, List.setIfInBounds_toArray, List.set_cons_zero, List.set_cons_succ]
        refine wpAnyH_ready (rs := [10]) (by kernel_rfl) (by simp) ?_
        refine AllReadyH.cons (o := ({ dst := some 26, op := Op.call { callee := Callee.builtin Builtin.append, args := #[Operand.tmp 18, Operand.tmp 25], argTypes := #[22, 22] }, type := 22, pos := "law.go:143", after := #[{ on := 2, ground := Ground.data }, { on := 9, ground := Ground.data }, { on := 2, ground := Ground.chain }], guard := none } : Oper)) rfl (fun K hK => ?_) AllReadyH.nil
        refine Kd.R_append_rows_step kH (w0 := w) w.heap.size (by rfl) (.tmp 18) (.tmp 25) 22 25 (.agg (nums .u8 (List.replicate 32 0)).toArray) 32 (by rfl) Tryd.underlying22 infoH3 rfl (by decide) (by decide) v3 xs [p] (some ⟨w.heap.size + 1, 0, none⟩) 1 1 (fun _ => True) (fun _ => False) (by rfl) (by rfl) (HR3.out) (HC1.out _ _ (grown_blk HG3.out (heap_alloc2_new w.drew _ _) (ne_own (show w.heap.size + 1 ≠ w.heap.size by omega)))) (fun _ _ h => kH_move h) (fun _ h => h.elim) (fun _ _ => trivial) (HB3.out) (HB3.out).size HLL.out.2 ?_
        intro v4 w4 ho hb hg hat
        have HR4 := Lib.hid ho
        have HB4 := Lib.hid hb
        have HG4 := Lib.hid hg
        clear ho hb hg hat
        refine hK.out _ _ (HS.out _ HB4.out) (fun hHeld => ?_)
        clear hK K
        try simp only [Act.put, List.setIfInBounds_toArray, List.set_cons_zero, List.set_cons_succ]
        refine wpAnyH_take (i := 11) (oi := ({ dst := some 3, op := Op.assign (Operand.tmp 26), type := 22, pos := "law.go:143", after := #[{ on := 10, ground := Ground.data }, { on := 10, ground := Ground.chain }, { on := 0, ground := Ground.phase }, { on := 1, ground := Ground.phase }, { on := 2, ground := Ground.phase }, { on := 3, ground := Ground.phase }, { on := 4, ground := Ground.phase }, { on := 5, ground := Ground.phase }, { on := 6, ground := Ground.phase }, { on := 7, ground := Ground.phase }, { on := 8, ground := Ground.phase }, { on := 9, ground := Ground.phase }, { on := 10, ground := Ground.phase }], guard := none } : Oper)) (v := v4) rfl (by kernel_rfl) (by kernel_rfl) (by kernel_rfl) (fun _ _ _ h => h) (Or.inl ⟨by rfl, fun w hSw => by go_simp⟩) hHeld ?_
        simp only [Act.put, List.setIfInBounds_toArray, List.set_cons_zero, List.set_cons_succ]
        refine wpAnyH_done (by kernel_rfl) ?_ _
        clear hbs hb0 hHeld hw1
        obtain ⟨A4, c4, rfl, hc4, hC4⟩ := Kd.R_reads HR4.out
        rw [HYS.out.1, HYS.out.2] at hc4 hC4
        rw [HYS.out.1, HYS.out.2]
        obtain ⟨b4, o4, rfl, hlt4, hrg4⟩ := HRG.out A4 w4 hC4
        have HMK4 := Lib.hid (HMK.out (some ⟨b4, o4, none⟩) c4 w4 hC4 hc4 HB4.out)
        have HX4 := Lib.hid (And.intro hC4 (And.intro hc4 (And.intro hlt4 hrg4)))
        clear hC4 hc4 hlt4 hrg4 HG3 HG4 HR3 HR4 HMK HRG
        go_wp2_with fail
        refine HMK4.out.mono ?_
        rintro e w5 ⟨A5, c5, rfl, hc5, hC5, hb5⟩
        have hk6 := heap_alloc_new w5 (.cells #[.int .i64 ((n : Int) + 1), .int .i64 (n : Int), .slice A5 d c5] 41)
        have hb6 := below_alloc (Below.refl w5.heap.size w5) (.cells #[.int .i64 ((n : Int) + 1), .int .i64 (n : Int), .slice A5 d c5] 41)
        obtain ⟨W6, hW6⟩ : ∃ W, w5.alloc (.cells #[.int .i64 ((n : Int) + 1), .int .i64 (n : Int), .slice A5 d c5] 41) = W := ⟨_, rfl⟩
        rw [hW6] at hk6 hb6
        have hs6 := hb6.size
        have HB46 := Lib.hid (hb5.trans (Below.mono hb6 hb5.size))
        have HB6 := Lib.hid (HB4.out.trans (Below.mono HB46.out HB4.out.size))
        have HSS := Lib.hid (show ∀ u : World, Below W6.heap.size W6 u → u.rangeAt b4 (o4 + n * 32) P ∧ (loadVar 41 ⟨w5.heap.size, 0, none⟩).run Tryd.prog u = .ok (.agg #[.int .i64 ((n : Int) + 1), .int .i64 (n : Int), .slice A5 d c5]) u from fun u h => by
          have h9 := (h.block _ (blk_lt hk6)).trans hk6
          exact ⟨range_below (HB46.out.trans (Below.mono h HB46.out.size)) HX4.out.2.2.1 HX4.out.2.2.2, run_loadVar_row (P := Tryd.prog) u w5.heap.size 41 41 _ (0, 0) _ h9 HI9.out.1 rfl HI9.out.2⟩)
        have HCC := Lib.hid (show ∀ u : World, Below W6.heap.size W6 u → Kd.C kH u A5 d (pathF d ys n) ∧ Kd.C kH u (some ⟨b4, o4, none⟩) (n + 1) ys ∧ Below w.heap.size w u from fun u h =>
          ⟨Kd.C_below hC5 (hb6.trans (Below.mono h hs6)), Kd.C_below HX4.out.1 (HB46.out.trans (Below.mono h HB46.out.size)), HB6.out.trans (Below.mono h HB6.out.size)⟩)
        have HC5 := Lib.hid hc5
        have HW6 := Lib.hid hW6
        clear hk6 hb6 hs6 hW6 hC5 hc5 hb5
        go_wp2_with ((with_reducible show wpList _ _ _ (Oper.mk _ (Op.store _ (.tmp 4) _) _ _ _ _ :: _) _ _); (go_loud (refine wpl_store_new rfl 41 (.tmp 4) (.tmp 32) rfl #[.int .i64 0, .int .i64 0, .slice none 0 0] #[.int .i64 ((n : Int) + 1), .int .i64 (n : Int), .slice A5 d c5] rfl rfl HI9.out.2 rfl (by simp [Value.oneCell']) ?_)))
        rw [HW6.out]
        have HBD := Lib.hid (below_drew (Below.refl W6.heap.size W6))
        have HTR := Lib.hid (show ∀ u u' : World, Below W6.heap.size W6 u → Below u.heap.size u u' → Below W6.heap.size W6 u' from fun u u' hu hu' => hu.trans (Below.mono hu' hu.size))
        refine wp_region_held (S := fun u => u.rangeAt b4 (o4 + n * 32) P ∧ (loadVar 41 ⟨w5.heap.size, 0, none⟩).run Tryd.prog u = .ok (.agg #[.int .i64 ((n : Int) + 1), .int .i64 (n : Int), .slice A5 d c5]) u) (by kernel_rfl) ?_
        change wpAnyH _ _ _ _ _ _ _ _ (World.drew _)
        have hHeld := HSS.out _ HBD.out
        refine wpAnyH_take (i := 0) (oi := ({ dst := some 34, op := Op.move (Operand.tmp 5), type := 42, pos := "law.go:145", after := #[], guard := none } : Oper)) (v := .int .i64 0) rfl (by kernel_rfl) (by kernel_rfl) (by kernel_rfl) (fun _ _ _ h => h) (Or.inl ⟨by rfl, fun w hSw => by go_simp⟩) hHeld ?_
        simp only [Act.put, List.setIfInBounds_toArray, List.set_cons_zero, List.set_cons_succ]
        refine wpAnyH_take (i := 1) (oi := ({ dst := some 35, op := Op.binOp BinOp.eql 42 (Operand.tmp 34) (Operand.const (Value.int IntKind.i64 0)) 42, type := 4, pos := "law.go:145", after := #[{ on := 0, ground := Ground.data }], guard := none } : Oper)) (v := .bool true) rfl (by kernel_rfl) (by kernel_rfl) (by kernel_rfl) (fun _ _ _ h => h) (Or.inl ⟨by rfl, fun w hSw => by go_simp⟩) hHeld ?_
        simp only [Act.put, List.setIfInBounds_toArray, List.set_cons_zero, List.set_cons_succ]
        refine wpAnyH_take (i := 2) (oi := ({ dst := some 36, op := Op.move (Operand.tmp 35), type := 4, pos := "law.go:145", after := #[{ on := 1, ground := Ground.data }], guard := none } : Oper)) (v := .bool true) rfl (by kernel_rfl) (by kernel_rfl) (by kernel_rfl) (fun _ _ _ h => h) (Or.inl ⟨by rfl, fun w hSw => by go_simp⟩) hHeld ?_
        simp only [Act.put, List.setIfInBounds_toArray, List.set_cons_zero, List.set_cons_succ]
        refine wpAnyH_take (i := 3) (oi := ({ dst := some 37, op := Op.load 41 (Operand.tmp 4), type := 41, pos := "law.go:145", after := #[{ on := 2, ground := Ground.guard }], guard := some (2, true) } : Oper)) (v := .agg #[.int .i64 ((n : Int) + 1), .int .i64 (n : Int), .slice A5 d c5]) rfl (by kernel_rfl) (by kernel_rfl) (by kernel_rfl) (fun _ _ _ h => h) (Or.inl ⟨by rfl, fun w hSw => by obtain ⟨z0, z1⟩ := hSw; go_simp⟩) hHeld ?_
        simp only [Act.put, List.setIfInBounds_toArray, List.set_cons_zero, List.set_cons_succ]
        refine wpAnyH_take (i := 4) (oi := ({ dst := some 38, op := Op.move (Operand.tmp 3), type := 22, pos := "law.go:145", after := #[{ on := 2, ground := Ground.guard }], guard := some (2, true) } : Oper)) (v := .slice (some ⟨b4, o4, none⟩) (n + 1) c4) rfl (by kernel_rfl) (by kernel_rfl) (by kernel_rfl) (fun _ _ _ h => h) (Or.inl ⟨by rfl, fun w hSw => by go_simp⟩) hHeld ?_
        simp only [Act.put, List.setIfInBounds_toArray, List.set_cons_zero, List.set_cons_succ]
        refine wpAnyH_take (i := 6) (oi := ({ dst := some 40, op := Op.move (Operand.tmp 3), type := 22, pos := "law.go:145", after := #[{ on := 2, ground := Ground.guard }], guard := some (2, true) } : Oper)) (v := .slice (some ⟨b4, o4, none⟩) (n + 1) c4) rfl (by kernel_rfl) (by kernel_rfl) (by kernel_rfl) (fun _ _ _ h => h) (Or.inl ⟨by rfl, fun w hSw => by go_simp⟩) hHeld ?_
        simp only [Act.put, List.setIfInBounds_toArray, List.set_cons_zero, List.set_cons_succ]
        refine wpAnyH_take (i := 7) (oi := ({ dst := some 41, op := Op.move (Operand.tmp 0), type := 22, pos := "law.go:145", after := #[{ on := 2, ground := Ground.guard }], guard := some (2, true) } : Oper)) (v := .slice (some ⟨b, o, none⟩) n c) rfl (by kernel_rfl) (by kernel_rfl) (by kernel_rfl) (fun _ _ _ h => h) (Or.inl ⟨by rfl, fun w hSw => by go_simp⟩) hHeld ?_
        simp only [Act.put, List.setIfInBounds_toArray, List.set_cons_zero, List.set_cons_succ]
        refine wpAnyH_take (i := 8) (oi := ({ dst := some 42, op := Op.call { callee := Callee.builtin Builtin.len, args := #[Operand.tmp 41], argTypes := #[22] }, type := 3, pos := "law.go:145", after := #[{ on := 7, ground := Ground.data }, { on := 2, ground := Ground.guard }], guard := some (2, true) } : Oper)) (v := .int .i64 (n : Int)) rfl (by kernel_rfl) (by kernel_rfl) (by kernel_rfl) (fun _ _ _ h => h) (Or.inl ⟨by rfl, fun w hSw => by go_simp⟩) hHeld ?_
        simp only [Act.put, List.setIfInBounds_toArray, List.set_cons_zero, List.set_cons_succ]
        refine wpAnyH_take (i := 9) (oi := ({ dst := some 43, op := Op.indexAddr 22 (Operand.tmp 40) (Operand.tmp 42), type := 0, pos := "law.go:145", after := #[{ on := 6, ground := Ground.data }, { on := 8, ground := Ground.data }, { on := 2, ground := Ground.guard }], guard := some (2, true) } : Oper)) (v := .pointer (some ⟨b4, o4 + n * 32, none⟩)) rfl (by kernel_rfl) (by kernel_rfl) (by kernel_rfl) (fun _ _ _ h => h) (Or.inl ⟨by rfl, fun w hSw => by go_simp; intro h; omega⟩) hHeld ?_
        simp only [Act.put, List.setIfInBounds_toArray, List.set_cons_zero, List.set_cons_succ]
        refine wpAnyH_take (i := 10) (oi := ({ dst := some 44, op := Op.load 25 (Operand.tmp 43), type := 25, pos := "law.go:145", after := #[{ on := 9, ground := Ground.data }, { on := 2, ground := Ground.guard }], guard := some (2, true) } : Oper)) (v := .agg P.toArray) rfl (by kernel_rfl) (by kernel_rfl) (by kernel_rfl) (fun _ _ _ h => h) (yieldsIf_load_mid (by rfl) _ _ rfl b4 (o4 + n * 32) rfl P _ (fun _ h => h.1) hu rfl hi1) hHeld ?_
        simp only [Act.put, List.setIfInBounds_toArray, List.set_cons_zero, List.set_cons_succ]
        refine wpAnyH_ready (rs := [5]) (by kernel_rfl) (by simp) ?_
        refine AllReadyH.cons (o := ({ dst := some 39, op := Op.call { callee := Callee.value (Operand.func 20), args := #[Operand.tmp 38], argTypes := #[22] }, type := 25, pos := "law.go:145", after := #[{ on := 4, ground := Ground.data }, { on := 2, ground := Ground.chain }, { on := 2, ground := Ground.guard }], guard := some (2, true) } : Oper)) rfl (fun K hK => ?_) AllReadyH.nil
        go_simp
        (with_reducible refine (HRM.out (some ⟨b4, o4, none⟩) c4 _ (HCC.out _ HBD.out).2.1 HX4.out.2.1 (HCC.out _ HBD.out).2.2).mono ?_)
        rintro e w7 ⟨rfl, hb7⟩
        have HB7 := Lib.hid (HTR.out _ _ HBD.out hb7)
        clear hb7
        go_wp2_with fail
        refine hK.out _ _ (HSS.out _ HB7.out) (fun hHeld => ?_)
        clear hK K
        try simp only [Act.put, List.setIfInBounds_toArray, List.set_cons_zero, List.set_cons_succ]
        refine wpAnyH_ready (rs := [11]) (by kernel_rfl) (by simp) ?_
        refine AllReadyH.cons (o := ({ dst := some 45, op := Op.call { callee := Callee.value (Operand.func 33), args := #[Operand.tmp 37, Operand.tmp 39, Operand.tmp 44], argTypes := #[41, 25, 25] }, type := 42, pos := "law.go:145", after := #[{ on := 3, ground := Ground.data }, { on := 5, ground := Ground.data }, { on := 10, ground := Ground.data }, { on := 5, ground := Ground.chain }, { on := 2, ground := Ground.guard }], guard := some (2, true) } : Oper)) rfl (fun K hK => ?_) AllReadyH.nil
        go_simp
        (with_reducible refine (HCK.out A5 c5 _ (HCC.out _ HB7.out).1 HC5.out (HCC.out _ HB7.out).2.2).mono ?_)
        rintro e w8 ⟨rfl, hb8⟩
        have HB8 := Lib.hid (HTR.out _ _ HB7.out hb8)
        clear hb8
        go_wp2_with fail
        refine hK.out _ _ (HSS.out _ HB8.out) (fun hHeld => ?_)
        clear hK K
        try simp only [Act.put, List.setIfInBounds_toArray, List.set_cons_zero, List.set_cons_succ]
        refine wpAnyH_take (i := 12) (oi := ({ dst := some 46, op := Op.binOp BinOp.eql 42 (Operand.tmp 45) (Operand.const (Value.int IntKind.i64 15)) 42, type := 4, pos := "law.go:145", after := #[{ on := 11, ground := Ground.data }, { on := 2, ground := Ground.guard }], guard := some (2, true) } : Oper)) (v := .bool true) rfl (by kernel_rfl) (by kernel_rfl) (by kernel_rfl) (fun _ _ _ h => h) (Or.inl ⟨by rfl, fun w hSw => by go_simp⟩) hHeld ?_
        simp only [Act.put, List.setIfInBounds_toArray, List.set_cons_zero, List.set_cons_succ]
        refine wpAnyH_take (i := 13) (oi := ({ dst := some 47, op := Op.pick (Operand.tmp 36) (Operand.tmp 46) (Operand.const (Value.bool false)), type := 4, pos := "law.go:145", after := #[{ on := 2, ground := Ground.data }, { on := 12, ground := Ground.data }], guard := none } : Oper)) (v := .bool true) rfl (by kernel_rfl) (by kernel_rfl) (by kernel_rfl) (fun _ _ _ h => h) (Or.inl ⟨by rfl, fun w hSw => by go_simp⟩) hHeld ?_
        simp only [Act.put, List.setIfInBounds_toArray, List.set_cons_zero, List.set_cons_succ]
        refine wpAnyH_take (i := 14) (oi := ({ dst := some 48, op := Op.move (Operand.tmp 47), type := 4, pos := "law.go:145", after := #[{ on := 13, ground := Ground.data }, { on := 11, ground := Ground.chain }], guard := none } : Oper)) (v := .bool true) rfl (by kernel_rfl) (by kernel_rfl) (by kernel_rfl) (fun _ _ _ h => h) (Or.inl ⟨by rfl, fun w hSw => by go_simp⟩) hHeld ?_
        simp only [Act.put, List.setIfInBounds_toArray, List.set_cons_zero, List.set_cons_succ]
        refine wpAnyH_ready (rs := [15]) (by kernel_rfl) (by simp) ?_
        refine AllReadyH.cons (o := ({ dst := some 49, op := Op.call { callee := Callee.value (Operand.func 29), args := #[], argTypes := #[] }, type := 4, pos := "law.go:145", after := #[{ on := 14, ground := Ground.chain }, { on := 14, ground := Ground.guard }], guard := some (14, true) } : Oper)) rfl (fun K hK => ?_) AllReadyH.nil
        go_simp
        (with_reducible refine (HAW.out _ (HCC.out _ HB8.out).2.2).mono ?_)
        rintro e w9 ⟨rfl, hb9⟩
        have HB9 := Lib.hid (HTR.out _ _ HB8.out hb9)
        clear hb9
        go_wp2_with fail
        refine hK.out _ _ (HSS.out _ HB9.out) (fun hHeld => ?_)
        clear hK K
        try simp only [Act.put, List.setIfInBounds_toArray, List.set_cons_zero, List.set_cons_succ]
        refine wpAnyH_take (i := 16) (oi := ({ dst := some 50, op := Op.pick (Operand.tmp 48) (Operand.tmp 49) (Operand.const (Value.bool false)), type := 4, pos := "law.go:145", after := #[{ on := 14, ground := Ground.data }, { on := 15, ground := Ground.data }], guard := none } : Oper)) (v := .bool true) rfl (by kernel_rfl) (by kernel_rfl) (by kernel_rfl) (fun _ _ _ h => h) (Or.inl ⟨by rfl, fun w hSw => by go_simp⟩) hHeld ?_
        simp only [Act.put, List.setIfInBounds_toArray, List.set_cons_zero, List.set_cons_succ]
        refine wpAnyH_take (i := 17) (oi := ({ dst := some 2, op := Op.assign (Operand.tmp 50), type := 4, pos := "law.go:145", after := #[{ on := 16, ground := Ground.data }, { on := 15, ground := Ground.chain }, { on := 0, ground := Ground.phase }, { on := 1, ground := Ground.phase }, { on := 2, ground := Ground.phase }, { on := 3, ground := Ground.phase }, { on := 4, ground := Ground.phase }, { on := 5, ground := Ground.phase }, { on := 6, ground := Ground.phase }, { on := 7, ground := Ground.phase }, { on := 8, ground := Ground.phase }, { on := 9, ground := Ground.phase }, { on := 10, ground := Ground.phase }, { on := 11, ground := Ground.phase }, { on := 12, ground := Ground.phase }, { on := 13, ground := Ground.phase }, { on := 14, ground := Ground.phase }, { on := 15, ground := Ground.phase }, { on := 16, ground := Ground.phase }], guard := none } : Oper)) (v := .bool true) rfl (by kernel_rfl) (by kernel_rfl) (by kernel_rfl) (fun _ _ _ h => h) (Or.inl ⟨by rfl, fun w hSw => by go_simp⟩) hHeld ?_
        simp only [Act.put, List.setIfInBounds_toArray, List.set_cons_zero, List.set_cons_succ]
        refine wpAnyH_done (by kernel_rfl) ?_ _
        clear hHeld
        go_wp2_with fail
        go_ret
        exact ⟨rfl, (HCC.out _ HB9.out).2.2⟩
    · skip
      go_simp
      refine hK.out _ _ (HS.out _ (below_alloc (below_drew (Below.refl w.heap.size w)) (.cells P.toArray 25))) (fun hHeld => ?_)
      clear hK K
      try simp only [Act.put, List.setIfInBounds_toArray, List.set_cons_zero, List.set_cons_succ]
      refine wpAnyH_ready (rs := [0]) (by kernel_rfl) (by simp) ?_
      refine AllReadyH.cons (o := ({ dst := some 16, op := Op.buildSlice 22 0 #[], type := 22, pos := "law.go:143", after := #[], guard := none } : Oper)) rfl (fun K hK => ?_) AllReadyH.nil
      go_simp
      refine hK.out _ _ (HS.out _ (below_alloc (below_alloc (below_drew (Below.refl w.heap.size w)) (.cells P.toArray 25)) (.cells #[] 25))) (fun hHeld => ?_)
      clear hK K
      try simp only [Act.put, List.setIfInBounds_toArray, List.set_cons_zero, List.set_cons_succ]
      refine wpAnyH_ready (rs := [2]) (by kernel_rfl) (by simp) ?_
      refine AllReadyH.cons (o := ({ dst := some 18, op := Op.call { callee := Callee.builtin Builtin.append, args := #[Operand.tmp 16, Operand.tmp 17], argTypes := #[22, 22] }, type := 22, pos := "law.go:143", after := #[{ on := 0, ground := Ground.data }, { on := 1, ground := Ground.data }], guard := none } : Oper)) rfl (fun K hK => ?_) AllReadyH.nil
      refine Kd.R_append_rows_step kH (w0 := w) w.heap.size (by rfl) (.tmp 16) (.tmp 17) 22 25 (.agg (nums .u8 (List.replicate 32 0)).toArray) 32 (by rfl) Tryd.underlying22 infoH3 rfl (by decide) (by decide) _ [] xs (some ⟨b, o, none⟩) n c (fun _ => True) (fun _ => False) (by rfl) (by rfl) (empty_row1 w _) (HRX.out _ (below_alloc (below_alloc (below_drew (Below.refl w.heap.size w)) (.cells P.toArray 25)) (.cells #[] 25))) (fun _ _ h => kH_move h) (fun _ h => h.elim) (fun _ _ => trivial) (below_alloc (below_alloc (below_drew (Below.refl w.heap.size w)) (.cells P.toArray 25)) (.cells #[] 25)) (below_alloc (below_alloc (below_drew (Below.refl w.heap.size w)) (.cells P.toArray 25)) (.cells #[] 25)).size HLL.out.1 ?_
      intro v3 w3 ho hb hg hat
      have HR3 := Lib.hid ho
      have HB3 := Lib.hid hb
      have HG3 := Lib.hid hg
      clear ho hb hg hat
      refine hK.out _ _ (HS.out _ HB3.out) (fun hHeld => ?_)
      clear hK K
      try simp only [Act.put, List.setIfInBounds_toArray, List.set_cons_zero, List.set_cons_succ]
      refine wpAnyH_ready (rs := [10]) (by kernel_rfl) (by simp) ?_
      refine AllReadyH.cons (o := ({ dst := some 26, op := Op.call { callee := Callee.builtin Builtin.append, args := #[Operand.tmp 18, Operand.tmp 25], argTypes := #[22, 22] }, type := 22, pos := "law.go:143", after := #[{ on := 2, ground := Ground.data }, { on := 9, ground := Ground.data }, { on := 2, ground := Ground.chain }], guard := none } : Oper)) rfl (fun K hK => ?_) AllReadyH.nil
      refine Kd.R_append_rows_step kH (w0 := w) w.heap.size (by rfl) (.tmp 18) (.tmp 25) 22 25 (.agg (nums .u8 (List.replicate 32 0)).toArray) 32 (by rfl) Tryd.underlying22 infoH3 rfl (by decide) (by decide) v3 xs [p] (some ⟨w.heap.size, 0, none⟩) 1 1 (fun _ => True) (fun _ => False) (by rfl) (by rfl) (HR3.out) (HC1.out _ _ (grown_blk HG3.out (heap_alloc2_old w.drew _ _) (ne_own (show w.heap.size ≠ w.heap.size + 1 by omega)))) (fun _ _ h => kH_move h) (fun _ h => h.elim) (fun _ _ => trivial) (HB3.out) (HB3.out).size HLL.out.2 ?_
      intro v4 w4 ho hb hg hat
      have HR4 := Lib.hid ho
      have HB4 := Lib.hid hb
      have HG4 := Lib.hid hg
      clear ho hb hg hat
      refine hK.out _ _ (HS.out _ HB4.out) (fun hHeld => ?_)
      clear hK K
      try simp only [Act.put, List.setIfInBounds_toArray, List.set_cons_zero, List.set_cons_succ]
      refine wpAnyH_take (i := 11) (oi := ({ dst := some 3, op := Op.assign (Operand.tmp 26), type := 22, pos := "law.go:143", after := #[{ on := 10, ground := Ground.data }, { on := 10, ground := Ground.chain }, { on := 0, ground := Ground.phase }, { on := 1, ground := Ground.phase }, { on := 2, ground := Ground.phase }, { on := 3, ground := Ground.phase }, { on := 4, ground := Ground.phase }, { on := 5, ground := Ground.phase }, { on := 6, ground := Ground.phase }, { on := 7, ground := Ground.phase }, { on := 8, ground := Ground.phase }, { on := 9, ground := Ground.phase }, { on := 10, ground := Ground.phase }], guard := none } : Oper)) (v := v4) rfl (by kernel_rfl) (by kernel_rfl) (by kernel_rfl) (fun _ _ _ h => h) (Or.inl ⟨by rfl, fun w hSw => by go_simp⟩) hHeld ?_
      simp only [Act.put, List.setIfInBounds_toArray, List.set_cons_zero, List.set_cons_succ]
      refine wpAnyH_done (by kernel_rfl) ?_ _
      clear hbs hb0 hHeld hw1
      obtain ⟨A4, c4, rfl, hc4, hC4⟩ := Kd.R_reads HR4.out
      rw [HYS.out.1, HYS.out.2] at hc4 hC4
      rw [HYS.out.1, HYS.out.2]
      obtain ⟨b4, o4, rfl, hlt4, hrg4⟩ := HRG.out A4 w4 hC4
      have HMK4 := Lib.hid (HMK.out (some ⟨b4, o4, none⟩) c4 w4 hC4 hc4 HB4.out)
      have HX4 := Lib.hid (And.intro hC4 (And.intro hc4 (And.intro hlt4 hrg4)))
      clear hC4 hc4 hlt4 hrg4 HG3 HG4 HR3 HR4 HMK HRG
      go_wp2_with fail
      refine HMK4.out.mono ?_
      rintro e w5 ⟨A5, c5, rfl, hc5, hC5, hb5⟩
      have hk6 := heap_alloc_new w5 (.cells #[.int .i64 ((n : Int) + 1), .int .i64 (n : Int), .slice A5 d c5] 41)
      have hb6 := below_alloc (Below.refl w5.heap.size w5) (.cells #[.int .i64 ((n : Int) + 1), .int .i64 (n : Int), .slice A5 d c5] 41)
      obtain ⟨W6, hW6⟩ : ∃ W, w5.alloc (.cells #[.int .i64 ((n : Int) + 1), .int .i64 (n : Int), .slice A5 d c5] 41) = W := ⟨_, rfl⟩
      rw [hW6] at hk6 hb6
      have hs6 := hb6.size
      have HB46 := Lib.hid (hb5.trans (Below.mono hb6 hb5.size))
      have HB6 := Lib.hid (HB4.out.trans (Below.mono HB46.out HB4.out.size))
      have HSS := Lib.hid (show ∀ u : World, Below W6.heap.size W6 u → u.rangeAt b4 (o4 + n * 32) P ∧ (loadVar 41 ⟨w5.heap.size, 0, none⟩).run Tryd.prog u = .ok (.agg #[.int .i64 ((n : Int) + 1), .int .i64 (n : Int), .slice A5 d c5]) u from fun u h => by
        have h9 := (h.block _ (blk_lt hk6)).trans hk6
        exact ⟨range_below (HB46.out.trans (Below.mono h HB46.out.size)) HX4.out.2.2.1 HX4.out.2.2.2, run_loadVar_row (P := Tryd.prog) u w5.heap.size 41 41 _ (0, 0) _ h9 HI9.out.1 rfl HI9.out.2⟩)
      have HCC := Lib.hid (show ∀ u : World, Below W6.heap.size W6 u → Kd.C kH u A5 d (pathF d ys n) ∧ Kd.C kH u (some ⟨b4, o4, none⟩) (n + 1) ys ∧ Below w.heap.size w u from fun u h =>
        ⟨Kd.C_below hC5 (hb6.trans (Below.mono h hs6)), Kd.C_below HX4.out.1 (HB46.out.trans (Below.mono h HB46.out.size)), HB6.out.trans (Below.mono h HB6.out.size)⟩)
      have HC5 := Lib.hid hc5
      have HW6 := Lib.hid hW6
      clear hk6 hb6 hs6 hW6 hC5 hc5 hb5
      go_wp2_with ((with_reducible show wpList _ _ _ (Oper.mk _ (Op.store _ (.tmp 4) _) _ _ _ _ :: _) _ _); (go_loud (refine wpl_store_new rfl 41 (.tmp 4) (.tmp 32) rfl #[.int .i64 0, .int .i64 0, .slice none 0 0] #[.int .i64 ((n : Int) + 1), .int .i64 (n : Int), .slice A5 d c5] rfl rfl HI9.out.2 rfl (by simp [Value.oneCell']) ?_)))
      rw [HW6.out]
      have HBD := Lib.hid (below_drew (Below.refl W6.heap.size W6))
      have HTR := Lib.hid (show ∀ u u' : World, Below W6.heap.size W6 u → Below u.heap.size u u' → Below W6.heap.size W6 u' from fun u u' hu hu' => hu.trans (Below.mono hu' hu.size))
      refine wp_region_held (S := fun u => u.rangeAt b4 (o4 + n * 32) P ∧ (loadVar 41 ⟨w5.heap.size, 0, none⟩).run Tryd.prog u = .ok (.agg #[.int .i64 ((n : Int) + 1), .int .i64 (n : Int), .slice A5 d c5]) u) (by kernel_rfl) ?_
      change wpAnyH _ _ _ _ _ _ _ _ (World.drew _)
      have hHeld := HSS.out _ HBD.out
      refine wpAnyH_take (i := 0) (oi := ({ dst := some 34, op := Op.move (Operand.tmp 5), type := 42, pos := "law.go:145", after := #[], guard := none } : Oper)) (v := .int .i64 0) rfl (by kernel_rfl) (by kernel_rfl) (by kernel_rfl) (fun _ _ _ h => h) (Or.inl ⟨by rfl, fun w hSw => by go_simp⟩) hHeld ?_
      simp only [Act.put, List.setIfInBounds_toArray, List.set_cons_zero, List.set_cons_succ]
      refine wpAnyH_take (i := 1) (oi := ({ dst := some 35, op := Op.binOp BinOp.eql 42 (Operand.tmp 34) (Operand.const (Value.int IntKind.i64 0)) 42, type := 4, pos := "law.go:145", after := #[{ on := 0, ground := Ground.data }], guard := none } : Oper)) (v := .bool true) rfl (by kernel_rfl) (by kernel_rfl) (by kernel_rfl) (fun _ _ _ h => h) (Or.inl ⟨by rfl, fun w hSw => by go_simp⟩) hHeld ?_
      simp only [Act.put, List.setIfInBounds_toArray, List.set_cons_zero, List.set_cons_succ]
      refine wpAnyH_take (i := 2) (oi := ({ dst := some 36, op := Op.move (Operand.tmp 35), type := 4, pos := "law.go:145", after := #[{ on := 1, ground := Ground.data }], guard := none } : Oper)) (v := .bool true) rfl (by kernel_rfl) (by kernel_rfl) (by kernel_rfl) (fun _ _ _ h => h) (Or.inl ⟨by rfl, fun w hSw => by go_simp⟩) hHeld ?_
      simp only [Act.put, List.setIfInBounds_toArray, List.set_cons_zero, List.set_cons_succ]
      refine wpAnyH_take (i := 3) (oi := ({ dst := some 37, op := Op.load 41 (Operand.tmp 4), type := 41, pos := "law.go:145", after := #[{ on := 2, ground := Ground.guard }], guard := some (2, true) } : Oper)) (v := .agg #[.int .i64 ((n : Int) + 1), .int .i64 (n : Int), .slice A5 d c5]) rfl (by kernel_rfl) (by kernel_rfl) (by kernel_rfl) (fun _ _ _ h => h) (Or.inl ⟨by rfl, fun w hSw => by obtain ⟨z0, z1⟩ := hSw; go_simp⟩) hHeld ?_
      simp only [Act.put, List.setIfInBounds_toArray, List.set_cons_zero, List.set_cons_succ]
      refine wpAnyH_take (i := 4) (oi := ({ dst := some 38, op := Op.move (Operand.tmp 3), type := 22, pos := "law.go:145", after := #[{ on := 2, ground := Ground.guard }], guard := some (2, true) } : Oper)) (v := .slice (some ⟨b4, o4, none⟩) (n + 1) c4) rfl (by kernel_rfl) (by kernel_rfl) (by kernel_rfl) (fun _ _ _ h => h) (Or.inl ⟨by rfl, fun w hSw => by go_simp⟩) hHeld ?_
      simp only [Act.put, List.setIfInBounds_toArray, List.set_cons_zero, List.set_cons_succ]
      refine wpAnyH_take (i := 6) (oi := ({ dst := some 40, op := Op.move (Operand.tmp 3), type := 22, pos := "law.go:145", after := #[{ on := 2, ground := Ground.guard }], guard := some (2, true) } : Oper)) (v := .slice (some ⟨b4, o4, none⟩) (n + 1) c4) rfl (by kernel_rfl) (by kernel_rfl) (by kernel_rfl) (fun _ _ _ h => h) (Or.inl ⟨by rfl, fun w hSw => by go_simp⟩) hHeld ?_
      simp only [Act.put, List.setIfInBounds_toArray, List.set_cons_zero, List.set_cons_succ]
      refine wpAnyH_take (i := 7) (oi := ({ dst := some 41, op := Op.move (Operand.tmp 0), type := 22, pos := "law.go:145", after := #[{ on := 2, ground := Ground.guard }], guard := some (2, true) } : Oper)) (v := .slice (some ⟨b, o, none⟩) n c) rfl (by kernel_rfl) (by kernel_rfl) (by kernel_rfl) (fun _ _ _ h => h) (Or.inl ⟨by rfl, fun w hSw => by go_simp⟩) hHeld ?_
      simp only [Act.put, List.setIfInBounds_toArray, List.set_cons_zero, List.set_cons_succ]
      refine wpAnyH_take (i := 8) (oi := ({ dst := some 42, op := Op.call { callee := Callee.builtin Builtin.len, args := #[Operand.tmp 41], argTypes := #[22] }, type := 3, pos := "law.go:145", after := #[{ on := 7, ground := Ground.data }, { on := 2, ground := Ground.guard }], guard := some (2, true) } : Oper)) (v := .int .i64 (n : Int)) rfl (by kernel_rfl) (by kernel_rfl) (by kernel_rfl) (fun _ _ _ h => h) (Or.inl ⟨by rfl, fun w hSw => by go_simp⟩) hHeld ?_
      simp only [Act.put, List.setIfInBounds_toArray, List.set_cons_zero, List.set_cons_succ]
      refine wpAnyH_take (i := 9) (oi := ({ dst := some 43, op := Op.indexAddr 22 (Operand.tmp 40) (Operand.tmp 42), type := 0, pos := "law.go:145", after := #[{ on := 6, ground := Ground.data }, { on := 8, ground := Ground.data }, { on := 2, ground := Ground.guard }], guard := some (2, true) } : Oper)) (v := .pointer (some ⟨b4, o4 + n * 32, none⟩)) rfl (by kernel_rfl) (by kernel_rfl) (by kernel_rfl) (fun _ _ _ h => h) (Or.inl ⟨by rfl, fun w hSw => by go_simp; intro h; omega⟩) hHeld ?_
      simp only [Act.put, List.setIfInBounds_toArray, List.set_cons_zero, List.set_cons_succ]
      refine wpAnyH_take (i := 10) (oi := ({ dst := some 44, op := Op.load 25 (Operand.tmp 43), type := 25, pos := "law.go:145", after := #[{ on := 9, ground := Ground.data }, { on := 2, ground := Ground.guard }], guard := some (2, true) } : Oper)) (v := .agg P.toArray) rfl (by kernel_rfl) (by kernel_rfl) (by kernel_rfl) (fun _ _ _ h => h) (yieldsIf_load_mid (by rfl) _ _ rfl b4 (o4 + n * 32) rfl P _ (fun _ h => h.1) hu rfl hi1) hHeld ?_
      simp only [Act.put, List.setIfInBounds_toArray, List.set_cons_zero, List.set_cons_succ]
      refine wpAnyH_ready (rs := [5]) (by kernel_rfl) (by simp) ?_
      refine AllReadyH.cons (o := ({ dst := some 39, op := Op.call { callee := Callee.value (Operand.func 20), args := #[Operand.tmp 38], argTypes := #[22] }, type := 25, pos := "law.go:145", after := #[{ on := 4, ground := Ground.data }, { on := 2, ground := Ground.chain }, { on := 2, ground := Ground.guard }], guard := some (2, true) } : Oper)) rfl (fun K hK => ?_) AllReadyH.nil
      go_simp
      (with_reducible refine (HRM.out (some ⟨b4, o4, none⟩) c4 _ (HCC.out _ HBD.out).2.1 HX4.out.2.1 (HCC.out _ HBD.out).2.2).mono ?_)
      rintro e w7 ⟨rfl, hb7⟩
      have HB7 := Lib.hid (HTR.out _ _ HBD.out hb7)
      clear hb7
      go_wp2_with fail
      refine hK.out _ _ (HSS.out _ HB7.out) (fun hHeld => ?_)
      clear hK K
      try simp only [Act.put, List.setIfInBounds_toArray, List.set_cons_zero, List.set_cons_succ]
      refine wpAnyH_ready (rs := [11]) (by kernel_rfl) (by simp) ?_
      refine AllReadyH.cons (o := ({ dst := some 45, op := Op.call { callee := Callee.value (Operand.func 33), args := #[Operand.tmp 37, Operand.tmp 39, Operand.tmp 44], argTypes := #[41, 25, 25] }, type := 42, pos := "law.go:145", after := #[{ on := 3, ground := Ground.data }, { on := 5, ground := Ground.data }, { on := 10, ground := Ground.data }, { on := 5, ground := Ground.chain }, { on := 2, ground := Ground.guard }], guard := some (2, true) } : Oper)) rfl (fun K hK => ?_) AllReadyH.nil
      go_simp
      (with_reducible refine (HCK.out A5 c5 _ (HCC.out _ HB7.out).1 HC5.out (HCC.out _ HB7.out).2.2).mono ?_)
      rintro e w8 ⟨rfl, hb8⟩
      have HB8 := Lib.hid (HTR.out _ _ HB7.out hb8)
      clear hb8
      go_wp2_with fail
      refine hK.out _ _ (HSS.out _ HB8.out) (fun hHeld => ?_)
      clear hK K
      try simp only [Act.put, List.setIfInBounds_toArray, List.set_cons_zero, List.set_cons_succ]
      refine wpAnyH_take (i := 12) (oi := ({ dst := some 46, op := Op.binOp BinOp.eql 42 (Operand.tmp 45) (Operand.const (Value.int IntKind.i64 15)) 42, type := 4, pos := "law.go:145", after := #[{ on := 11, ground := Ground.data }, { on := 2, ground := Ground.guard }], guard := some (2, true) } : Oper)) (v := .bool true) rfl (by kernel_rfl) (by kernel_rfl) (by kernel_rfl) (fun _ _ _ h => h) (Or.inl ⟨by rfl, fun w hSw => by go_simp⟩) hHeld ?_
      simp only [Act.put, List.setIfInBounds_toArray, List.set_cons_zero, List.set_cons_succ]
      refine wpAnyH_take (i := 13) (oi := ({ dst := some 47, op := Op.pick (Operand.tmp 36) (Operand.tmp 46) (Operand.const (Value.bool false)), type := 4, pos := "law.go:145", after := #[{ on := 2, ground := Ground.data }, { on := 12, ground := Ground.data }], guard := none } : Oper)) (v := .bool true) rfl (by kernel_rfl) (by kernel_rfl) (by kernel_rfl) (fun _ _ _ h => h) (Or.inl ⟨by rfl, fun w hSw => by go_simp⟩) hHeld ?_
      simp only [Act.put, List.setIfInBounds_toArray, List.set_cons_zero, List.set_cons_succ]
      refine wpAnyH_take (i := 14) (oi := ({ dst := some 48, op := Op.move (Operand.tmp 47), type := 4, pos := "law.go:145", after := #[{ on := 13, ground := Ground.data }, { on := 11, ground := Ground.chain }], guard := none } : Oper)) (v := .bool true) rfl (by kernel_rfl) (by kernel_rfl) (by kernel_rfl) (fun _ _ _ h => h) (Or.inl ⟨by rfl, fun w hSw => by go_simp⟩) hHeld ?_
      simp only [Act.put, List.setIfInBounds_toArray, List.set_cons_zero, List.set_cons_succ]
      refine wpAnyH_ready (rs := [15]) (by kernel_rfl) (by simp) ?_
      refine AllReadyH.cons (o := ({ dst := some 49, op := Op.call { callee := Callee.value (Operand.func 29), args := #[], argTypes := #[] }, type := 4, pos := "law.go:145", after := #[{ on := 14, ground := Ground.chain }, { on := 14, ground := Ground.guard }], guard := some (14, true) } : Oper)) rfl (fun K hK => ?_) AllReadyH.nil
      go_simp
      (with_reducible refine (HAW.out _ (HCC.out _ HB8.out).2.2).mono ?_)
      rintro e w9 ⟨rfl, hb9⟩
      have HB9 := Lib.hid (HTR.out _ _ HB8.out hb9)
      clear hb9
      go_wp2_with fail
      refine hK.out _ _ (HSS.out _ HB9.out) (fun hHeld => ?_)
      clear hK K
      try simp only [Act.put, List.setIfInBounds_toArray, List.set_cons_zero, List.set_cons_succ]
      refine wpAnyH_take (i := 16) (oi := ({ dst := some 50, op := Op.pick (Operand.tmp 48) (Operand.tmp 49) (Operand.const (Value.bool false)), type := 4, pos := "law.go:145", after := #[{ on := 14, ground := Ground.data }, { on := 15, ground := Ground.data }], guard := none } : Oper)) (v := .bool true) rfl (by kernel_rfl) (by kernel_rfl) (by kernel_rfl) (fun _ _ _ h => h) (Or.inl ⟨by rfl, fun w hSw => by go_simp⟩) hHeld ?_
      simp only [Act.put, List.setIfInBounds_toArray, List.set_cons_zero, List.set_cons_succ]
      refine wpAnyH_take (i := 17) (oi := ({ dst := some 2, op := Op.assign (Operand.tmp 50), type := 4, pos := "law.go:145", after := #[{ on := 16, ground := Ground.data }, { on := 15, ground := Ground.chain }, { on := 0, ground := Ground.phase }, { on := 1, ground := Ground.phase }, { on := 2, ground := Ground.phase }, { on := 3, ground := Ground.phase }, { on := 4, ground := Ground.phase }, { on := 5, ground := Ground.phase }, { on := 6, ground := Ground.phase }, { on := 7, ground := Ground.phase }, { on := 8, ground := Ground.phase }, { on := 9, ground := Ground.phase }, { on := 10, ground := Ground.phase }, { on := 11, ground := Ground.phase }, { on := 12, ground := Ground.phase }, { on := 13, ground := Ground.phase }, { on := 14, ground := Ground.phase }, { on := 15, ground := Ground.phase }, { on := 16, ground := Ground.phase }], guard := none } : Oper)) (v := .bool true) rfl (by kernel_rfl) (by kernel_rfl) (by kernel_rfl) (fun _ _ _ h => h) (Or.inl ⟨by rfl, fun w hSw => by go_simp⟩) hHeld ?_
      simp only [Act.put, List.setIfInBounds_toArray, List.set_cons_zero, List.set_cons_succ]
      refine wpAnyH_done (by kernel_rfl) ?_ _
      clear hHeld
      go_wp2_with fail
      go_ret
      exact ⟨rfl, (HCC.out _ HB9.out).2.2⟩
end Go.Proofs.YtlmcdkjobdcflaaDoor.Hand
