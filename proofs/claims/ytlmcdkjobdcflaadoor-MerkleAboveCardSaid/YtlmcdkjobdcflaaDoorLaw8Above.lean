/- The law MerkleAbove: walked. -/
import Derived.Test.YtlmcdkjobdcflaaDoorProg
import Derived.Below
import Derived.Deep.Draws
import Derived.Deep.AppendLies
import Derived.Maps.AppendAt
import Derived.OwnWalk
import Derived.Laws.BytesArg
import Derived.Laws.MakeOwn
import Derived.Laws.OwnMore
import Derived.Deep.OwnRows
import Derived.Tactics
import Derived.Lib.ConvBytes
import Derived.Laws.Slices
import Derived.WalkKit
import Derived.KernelRfl
import Derived.RowKit3
import Derived.Deep.LoopGhost
import Derived.Deep.QuietTactic
import Derived.BigQuiet
import Derived.WideLaws
import Derived.Deep.DeepCutAuto
import Derived.Deep.CutBlock
import Derived.Deep.RegionHeld3
import Derived.Laws.Rows
import Derived.Lib.AppendStr
import Derived.ArgAppend
import Derived.Laws.IdiomCopy
import Derived.OrdersHeld
import Derived.Laws.BitsLemmas
import Derived.RowKit
import Derived.StillTailTactics
import Derived.Test.YtlmcdkjobdcflaaDoorWWords
import Derived.Test.YtlmcdkjobdcflaaDoorWLast
import Derived.Test.YtlmcdkjobdcflaaDoorWMore
import Derived.Lib.Hide
import Derived.Outline
import Derived.Deep.MidRow
import Derived.Deep.DrawnRows
import Derived.Test.YtlmcdkjobdcflaaDoorLaws8
namespace Go.Proofs.YtlmcdkjobdcflaaDoor.Hand
open Go Go.RowKit Go.Proofs.YtlmcdkjobdcflaaDoor.Plain Go.Proofs.YtlmcdkjobdcflaaDoor.PAll Go.Proofs.YtlmcdkjobdcflaaDoorW.PrintWords Go.Proofs.YtlmcdkjobdcflaaDoorW.PrintLast Go.Proofs.YtlmcdkjobdcflaaDoorW.PrintMore
set_option linter.unusedVariables false
set_option linter.unusedSimpArgs false
set_option maxRecDepth 100000
attribute [local go_sem ↓] Go.wp_at_zero Go.wp_at_succ
set_option maxHeartbeats 4000000 in
theorem abovel_calls (A : Option Addr) (n c : Nat) (xs : List (List Int)) (w : World) (hn : n = xs.length) (hr : Kd.C kH w A n xs) (hc : n ≤ c) (hH : Hs xs) (hK : KT w) :
    Calls Tryd.prog 4 #[.slice A n c] w fun e w' => e = .returned (.bool true) ∧ Below w.heap.size w w' := by
  have hm := Kd.C_max hr
  have HAW := Lib.hid (fun (u : World) (hu : Below w.heap.size w u) => awake8_calls u (hK.below hu (Nat.le_refl _)))
  by_cases hl : 20 < n
  · clear hn hr hH hK
    go_enter Tryd.func4, Tryd.ntmps4
    go_wp2_with fail
    refine (HAW.out _ (Below.refl _ _)).mono ?_
    rintro e w1 ⟨rfl, hb⟩
    go_wp2_with fail
    go_ret
    exact ⟨rfl, hb⟩
  · have HAB := Lib.hid (above_calls A n c xs w hn hr hc (by omega) hH hK)
    have HRO := Lib.hid (fun (u : World) (hu : Below w.heap.size w u) => root_calls A n c xs u hn (Kd.C_below hr hu) hc (by omega) hH (hK.below hu (Nat.le_refl _)))
    have HRA := Lib.hid (fun (A2 : Option Addr) (c2 : Nat) (u : World) (hr2 : Kd.C kH u A2 (aboveP xs).length (aboveP xs)) (hc2 : (aboveP xs).length ≤ c2) (hu : Below w.heap.size w u) => root_calls A2 (aboveP xs).length c2 (aboveP xs) u rfl hr2 hc2 (by rw [aboveP_len]; omega) (aboveP_Hs _) (hK.below hu (Nat.le_refl _)))
    have q0 := fun u => eqH (rootP xs) (rootP xs) (rootP_hash hH).1 (rootP_hash hH).1 u
    simp only [beq_self_eq_true] at q0
    have hra : 2 ≤ n → rootP (aboveP xs) = rootP xs := fun h => rootP_above (by omega)
    have HHH := Lib.hid hH
    have HR := Lib.hid hr
    have HPA := Lib.hid (fun (p q : List Int) (u : World) (h1 : p.length = 32 ∧ ∀ x ∈ p, 0 ≤ x ∧ x < 256) (h2 : q.length = 32 ∧ ∀ x ∈ q, 0 ≤ x ∧ x < 256) => rpair_calls p q u h1.1 h2.1 h1.2 h2.2)
    have HN := Lib.hid hn
    have HX := Lib.hid (And.intro hra (show (aboveP xs).length = (n + 1) / 2 by rw [aboveP_len, hn]))
    have hl2 : ¬ (20 : Int) < (n : Int) := by omega
    clear hn hr hH hK hra
    go_enter Tryd.func4, Tryd.ntmps4
    go_wp2_with fail
    refine HAB.out.mono ?_
    rintro e w1 ⟨v, rfl, hv, hb1⟩
    obtain ⟨A1, c1, rfl, hc1, hC1⟩ := Kd.R_reads hv
    have HB1 := Lib.hid hb1
    have HC1 := Lib.hid hC1
    have HCC := Lib.hid hc1
    clear hv hb1 hC1 hc1 HAB
    obtain ⟨m, hmm⟩ : ∃ m, (aboveP xs).length = m := ⟨_, rfl⟩
    have HM := Lib.hid hmm
    rw [hmm] at HX HCC HC1 HRA ⊢
    have h1 : ((n : Int) + 1) / 2 = (m : Int) := by have := HX.out.2; omega
    have h2 : ((m : Int) != (m : Int)) = false := by simp
    clear hmm
    go_wp2_with fail
    clear h1 h2
    go_loopw [20] (fun i wr => ∃ k : Nat, k ≤ m ∧ i = .int .i64 (k : Int) ∧ Hid (Below w1.heap.size w1 wr)) (fun i _ => (m + 1 - (intOf i).toNat))
    case atStart => exact ⟨0, Nat.zero_le _, rfl, Lib.hid (Below.refl _ _)⟩
    case round =>
      obtain ⟨k, hk, rfl, H⟩ := hrel
      by_cases hlt : k < m
      · obtain ⟨j, hj⟩ : ∃ j, min (2 * k + 1) (n - 1) = j := ⟨_, rfl⟩
        have hN := HN.out
        have hm2 := HX.out.2
        have hjn : j < n := by omega
        obtain ⟨b, o, rfl, hbl, hrg⟩ := C_hash (by rw [← hN]; exact HR.out) (by omega)
        obtain ⟨b1, o1, rfl, hbl1, hrg1⟩ := C_hash (by rw [HM.out]; exact HC1.out) (by rw [HM.out]; omega)
        obtain ⟨hp, hp32⟩ := (hrg (2 * k) (by omega))
        obtain ⟨hq, hq32⟩ := (hrg j (by omega))
        obtain ⟨hv, hv32⟩ := (hrg1 k (by rw [HM.out]; exact hlt))
        rw [rdH_above (by omega), aboveAt, ← hN, hj] at hv hv32
        have hpb := HHH.out.any (2 * k)
        have hqb := HHH.out.any j
        obtain ⟨p, hpe⟩ : ∃ p, rdH xs (2 * k) = p := ⟨_, rfl⟩
        obtain ⟨q, hqe⟩ : ∃ p, rdH xs j = p := ⟨_, rfl⟩
        rw [hpe] at hp hp32 hv hpb hv32
        rw [hqe] at hq hq32 hv hqb hv32
        have HP2 := Lib.hid (fun u => HPA.out p q u hpb hqb)
        have q1 := fun u => eqH (twiceP (p ++ q)) (twiceP (p ++ q)) (twiceP_len _) (twiceP_len _) u
        simp only [beq_self_eq_true] at q1
        obtain ⟨P, hP⟩ : ∃ P, nums .u8 p = P := ⟨_, rfl⟩
        obtain ⟨Q, hQ⟩ : ∃ P, nums .u8 q = P := ⟨_, rfl⟩
        have hPl : P.length = 32 := by rw [← hP, nums_len]; exact hp32
        have hQl : Q.length = 32 := by rw [← hQ, nums_len]; exact hq32
        obtain ⟨V, hV⟩ : ∃ P, nums .u8 (twiceP (p ++ q)) = P := ⟨_, rfl⟩
        have hVl : V.length = 32 := by rw [← hV, nums_len]; exact hv32
        rw [hP] at hp HP2
        rw [hQ] at hq HP2
        rw [hV] at hv HP2 q1
        obtain ⟨i0, hi0⟩ : ∃ i, 2 * k = i := ⟨_, rfl⟩
        rw [hi0] at hp
        have hk1 : (2 : Int) * (k : Int) = (i0 : Int) := by omega
        have g1 : (0 : Int) ≤ (i0 : Int) := by omega
        have g2 : (i0 : Int) < (n : Int) := by omega
        have g3 : (0 : Int) ≤ (j : Int) := by omega
        have g4 : (j : Int) < (n : Int) := by omega
        have g5 : (0 : Int) ≤ (k : Int) := by omega
        have g6 : (k : Int) < (m : Int) := by omega
        have hmin : min ((i0 : Int) + 1) ((n : Int) - 1) = (j : Int) := by omega
        have HB := Lib.hid H.out
        have HT := Lib.hid (show ∀ u : World, Below w1.heap.size w1 u → Below w.heap.size w u from fun u hu => HB1.out.trans (Below.mono hu HB1.out.size))
        have HS := Lib.hid (show ∀ u : World, Below w1.heap.size w1 u → u.rangeAt b1 (o1 + k * 32) V ∧ u.rangeAt b (o + i0 * 32) P ∧ u.rangeAt b (o + j * 32) Q from fun u hu => ⟨range_below hu hbl1 hv, range_below (HT.out _ hu) hbl hp, range_below (HT.out _ hu) hbl hq⟩)
        have hu := Tryd.underlying25
        have hi1 : (Tryd.prog.info? 25).map (·.size) = some P.length := by rw [hPl]; exact (zero_of_info infoHash).2
        have hi2 : (Tryd.prog.info? 25).map (·.size) = some Q.length := by rw [hQl]; exact (zero_of_info infoHash).2
        have hi3 : (Tryd.prog.info? 25).map (·.size) = some V.length := by rw [hVl]; exact (zero_of_info infoHash).2
        have hw1 : IntKind.i64.wrap (i0 : Int) = (i0 : Int) := IntWalk.i64_in _ (by omega)
        have hw2 : IntKind.i64.wrap ((i0 : Int) + 1) = (i0 : Int) + 1 := IntWalk.i64_in _ (by omega)
        have hw3 : IntKind.i64.wrap ((n : Int) - 1) = (n : Int) - 1 := IntWalk.i64_in _ (by omega)
        have HG := Lib.hid (show k + 1 ≤ m by omega)
        clear hp hq hv hp32 hq32 hv32 hpb hqb hpe hqe hP hQ hV hPl hQl hVl hrg hrg1 hj hN hm2 H hi0
        go_wp2_with fail
        have hHeld := HS.out _ (below_drew HB.out)
        refine wp_region_held (S := fun u => u.rangeAt b1 (o1 + k * 32) V ∧ u.rangeAt b (o + i0 * 32) P ∧ u.rangeAt b (o + j * 32) Q) (by kernel_rfl) ?_
        change wpAnyH _ _ _ _ _ _ _ _ (World.drew _)
        refine wpAnyH_take (i := 0) (oi := ({ dst := some 23, op := Op.move (Operand.tmp 3), type := 22, pos := "law.go:52", after := #[], guard := none } : Oper)) (v := .slice (some ⟨b1, o1, none⟩) m c1) rfl (by kernel_rfl) (by kernel_rfl) (by kernel_rfl) (fun _ _ _ h => h) (Or.inl ⟨by rfl, fun w hSw => by go_simp⟩) hHeld ?_
        simp only [Act.put, List.setIfInBounds_toArray, List.set_cons_zero, List.set_cons_succ]
        refine wpAnyH_take (i := 1) (oi := ({ dst := some 24, op := Op.move (Operand.tmp 4), type := 3, pos := "law.go:52", after := #[], guard := none } : Oper)) (v := .int .i64 (k : Int)) rfl (by kernel_rfl) (by kernel_rfl) (by kernel_rfl) (fun _ _ _ h => h) (Or.inl ⟨by rfl, fun w hSw => by go_simp⟩) hHeld ?_
        simp only [Act.put, List.setIfInBounds_toArray, List.set_cons_zero, List.set_cons_succ]
        refine wpAnyH_take (i := 2) (oi := ({ dst := some 25, op := Op.indexAddr 22 (Operand.tmp 23) (Operand.tmp 24), type := 0, pos := "law.go:52", after := #[{ on := 0, ground := Ground.data }, { on := 1, ground := Ground.data }], guard := none } : Oper)) (v := .pointer (some ⟨b1, o1 + k * 32, none⟩)) rfl (by kernel_rfl) (by kernel_rfl) (by kernel_rfl) (fun _ _ _ h => h) (Or.inl ⟨by rfl, fun w hSw => by go_simp⟩) hHeld ?_
        simp only [Act.put, List.setIfInBounds_toArray, List.set_cons_zero, List.set_cons_succ]
        refine wpAnyH_take (i := 3) (oi := ({ dst := some 26, op := Op.load 25 (Operand.tmp 25), type := 25, pos := "law.go:52", after := #[{ on := 2, ground := Ground.data }], guard := none } : Oper)) (v := .agg V.toArray) rfl (by kernel_rfl) (by kernel_rfl) (by kernel_rfl) (fun _ _ _ h => h) (yieldsIf_load_mid (by rfl) _ _ rfl b1 (o1 + k * 32) rfl V _ (fun _ h => h.1) hu rfl hi3) hHeld ?_
        simp only [Act.put, List.setIfInBounds_toArray, List.set_cons_zero, List.set_cons_succ]
        refine wpAnyH_take (i := 4) (oi := ({ dst := some 27, op := Op.move (Operand.tmp 0), type := 22, pos := "law.go:52", after := #[], guard := none } : Oper)) (v := .slice (some ⟨b, o, none⟩) n c) rfl (by kernel_rfl) (by kernel_rfl) (by kernel_rfl) (fun _ _ _ h => h) (Or.inl ⟨by rfl, fun w hSw => by go_simp⟩) hHeld ?_
        simp only [Act.put, List.setIfInBounds_toArray, List.set_cons_zero, List.set_cons_succ]
        refine wpAnyH_take (i := 5) (oi := ({ dst := some 28, op := Op.move (Operand.tmp 4), type := 3, pos := "law.go:52", after := #[], guard := none } : Oper)) (v := .int .i64 (k : Int)) rfl (by kernel_rfl) (by kernel_rfl) (by kernel_rfl) (fun _ _ _ h => h) (Or.inl ⟨by rfl, fun w hSw => by go_simp⟩) hHeld ?_
        simp only [Act.put, List.setIfInBounds_toArray, List.set_cons_zero, List.set_cons_succ]
        refine wpAnyH_take (i := 6) (oi := ({ dst := some 29, op := Op.binOp BinOp.mul 3 (Operand.const (Value.int IntKind.i64 2)) (Operand.tmp 28) 3, type := 3, pos := "law.go:52", after := #[{ on := 5, ground := Ground.data }], guard := none } : Oper)) (v := .int .i64 (i0 : Int)) rfl (by kernel_rfl) (by kernel_rfl) (by kernel_rfl) (fun _ _ _ h => h) (Or.inl ⟨by rfl, fun w hSw => by go_simp⟩) hHeld ?_
        simp only [Act.put, List.setIfInBounds_toArray, List.set_cons_zero, List.set_cons_succ]
        refine wpAnyH_take (i := 7) (oi := ({ dst := some 30, op := Op.indexAddr 22 (Operand.tmp 27) (Operand.tmp 29), type := 0, pos := "law.go:52", after := #[{ on := 4, ground := Ground.data }, { on := 6, ground := Ground.data }], guard := none } : Oper)) (v := .pointer (some ⟨b, o + i0 * 32, none⟩)) rfl (by kernel_rfl) (by kernel_rfl) (by kernel_rfl) (fun _ _ _ h => h) (Or.inl ⟨by rfl, fun w hSw => by go_simp⟩) hHeld ?_
        simp only [Act.put, List.setIfInBounds_toArray, List.set_cons_zero, List.set_cons_succ]
        refine wpAnyH_take (i := 8) (oi := ({ dst := some 31, op := Op.load 25 (Operand.tmp 30), type := 25, pos := "law.go:52", after := #[{ on := 7, ground := Ground.data }], guard := none } : Oper)) (v := .agg P.toArray) rfl (by kernel_rfl) (by kernel_rfl) (by kernel_rfl) (fun _ _ _ h => h) (yieldsIf_load_mid (by rfl) _ _ rfl b (o + i0 * 32) rfl P _ (fun _ h => h.2.1) hu rfl hi1) hHeld ?_
        simp only [Act.put, List.setIfInBounds_toArray, List.set_cons_zero, List.set_cons_succ]
        refine wpAnyH_take (i := 9) (oi := ({ dst := some 32, op := Op.move (Operand.tmp 0), type := 22, pos := "law.go:52", after := #[], guard := none } : Oper)) (v := .slice (some ⟨b, o, none⟩) n c) rfl (by kernel_rfl) (by kernel_rfl) (by kernel_rfl) (fun _ _ _ h => h) (Or.inl ⟨by rfl, fun w hSw => by go_simp⟩) hHeld ?_
        simp only [Act.put, List.setIfInBounds_toArray, List.set_cons_zero, List.set_cons_succ]
        refine wpAnyH_take (i := 10) (oi := ({ dst := some 33, op := Op.move (Operand.tmp 4), type := 3, pos := "law.go:52", after := #[], guard := none } : Oper)) (v := .int .i64 (k : Int)) rfl (by kernel_rfl) (by kernel_rfl) (by kernel_rfl) (fun _ _ _ h => h) (Or.inl ⟨by rfl, fun w hSw => by go_simp⟩) hHeld ?_
        simp only [Act.put, List.setIfInBounds_toArray, List.set_cons_zero, List.set_cons_succ]
        refine wpAnyH_take (i := 11) (oi := ({ dst := some 34, op := Op.binOp BinOp.mul 3 (Operand.const (Value.int IntKind.i64 2)) (Operand.tmp 33) 3, type := 3, pos := "law.go:52", after := #[{ on := 10, ground := Ground.data }], guard := none } : Oper)) (v := .int .i64 (i0 : Int)) rfl (by kernel_rfl) (by kernel_rfl) (by kernel_rfl) (fun _ _ _ h => h) (Or.inl ⟨by rfl, fun w hSw => by go_simp⟩) hHeld ?_
        simp only [Act.put, List.setIfInBounds_toArray, List.set_cons_zero, List.set_cons_succ]
        refine wpAnyH_take (i := 12) (oi := ({ dst := some 35, op := Op.binOp BinOp.add 3 (Operand.tmp 34) (Operand.const (Value.int IntKind.i64 1)) 3, type := 3, pos := "law.go:52", after := #[{ on := 11, ground := Ground.data }], guard := none } : Oper)) (v := .int .i64 ((i0 : Int) + 1)) rfl (by kernel_rfl) (by kernel_rfl) (by kernel_rfl) (fun _ _ _ h => h) (Or.inl ⟨by rfl, fun w hSw => by go_simp⟩) hHeld ?_
        simp only [Act.put, List.setIfInBounds_toArray, List.set_cons_zero, List.set_cons_succ]
        refine wpAnyH_take (i := 13) (oi := ({ dst := some 36, op := Op.move (Operand.tmp 0), type := 22, pos := "law.go:52", after := #[], guard := none } : Oper)) (v := .slice (some ⟨b, o, none⟩) n c) rfl (by kernel_rfl) (by kernel_rfl) (by kernel_rfl) (fun _ _ _ h => h) (Or.inl ⟨by rfl, fun w hSw => by go_simp⟩) hHeld ?_
        simp only [Act.put, List.setIfInBounds_toArray, List.set_cons_zero, List.set_cons_succ]
        refine wpAnyH_take (i := 14) (oi := ({ dst := some 37, op := Op.call { callee := Callee.builtin Builtin.len, args := #[Operand.tmp 36], argTypes := #[22] }, type := 3, pos := "law.go:52", after := #[{ on := 13, ground := Ground.data }], guard := none } : Oper)) (v := .int .i64 (n : Int)) rfl (by kernel_rfl) (by kernel_rfl) (by kernel_rfl) (fun _ _ _ h => h) (Or.inl ⟨by rfl, fun w hSw => by go_simp⟩) hHeld ?_
        simp only [Act.put, List.setIfInBounds_toArray, List.set_cons_zero, List.set_cons_succ]
        refine wpAnyH_take (i := 15) (oi := ({ dst := some 38, op := Op.binOp BinOp.sub 3 (Operand.tmp 37) (Operand.const (Value.int IntKind.i64 1)) 3, type := 3, pos := "law.go:52", after := #[{ on := 14, ground := Ground.data }], guard := none } : Oper)) (v := .int .i64 ((n : Int) - 1)) rfl (by kernel_rfl) (by kernel_rfl) (by kernel_rfl) (fun _ _ _ h => h) (Or.inl ⟨by rfl, fun w hSw => by go_simp⟩) hHeld ?_
        simp only [Act.put, List.setIfInBounds_toArray, List.set_cons_zero, List.set_cons_succ]
        refine wpAnyH_take (i := 16) (oi := ({ dst := some 39, op := Op.call { callee := Callee.builtin Builtin.min, args := #[Operand.tmp 35, Operand.tmp 38], argTypes := #[3, 3] }, type := 3, pos := "law.go:52", after := #[{ on := 12, ground := Ground.data }, { on := 15, ground := Ground.data }], guard := none } : Oper)) (v := .int .i64 (j : Int)) rfl (by kernel_rfl) (by kernel_rfl) (by kernel_rfl) (fun _ _ _ h => h) (Or.inl ⟨by rfl, fun w hSw => by go_simp⟩) hHeld ?_
        simp only [Act.put, List.setIfInBounds_toArray, List.set_cons_zero, List.set_cons_succ]
        refine wpAnyH_take (i := 17) (oi := ({ dst := some 40, op := Op.indexAddr 22 (Operand.tmp 32) (Operand.tmp 39), type := 0, pos := "law.go:52", after := #[{ on := 9, ground := Ground.data }, { on := 16, ground := Ground.data }], guard := none } : Oper)) (v := .pointer (some ⟨b, o + j * 32, none⟩)) rfl (by kernel_rfl) (by kernel_rfl) (by kernel_rfl) (fun _ _ _ h => h) (Or.inl ⟨by rfl, fun w hSw => by go_simp⟩) hHeld ?_
        simp only [Act.put, List.setIfInBounds_toArray, List.set_cons_zero, List.set_cons_succ]
        refine wpAnyH_take (i := 18) (oi := ({ dst := some 41, op := Op.load 25 (Operand.tmp 40), type := 25, pos := "law.go:52", after := #[{ on := 17, ground := Ground.data }], guard := none } : Oper)) (v := .agg Q.toArray) rfl (by kernel_rfl) (by kernel_rfl) (by kernel_rfl) (fun _ _ _ h => h) (yieldsIf_load_mid (by rfl) _ _ rfl b (o + j * 32) rfl Q _ (fun _ h => h.2.2) hu rfl hi2) hHeld ?_
        simp only [Act.put, List.setIfInBounds_toArray, List.set_cons_zero, List.set_cons_succ]
        refine wpAnyH_ready (rs := [19]) (by kernel_rfl) (by simp) ?_
        refine AllReadyH.cons (o := ({ dst := some 42, op := Op.call { callee := Callee.value (Operand.func 24), args := #[Operand.tmp 31, Operand.tmp 41], argTypes := #[24, 24] }, type := 24, pos := "law.go:52", after := #[{ on := 8, ground := Ground.data }, { on := 18, ground := Ground.data }], guard := none } : Oper)) rfl (fun K hK => ?_) AllReadyH.nil
        go_simp
        (with_reducible refine (HP2.out _).mono ?_)
        rintro e w3 ⟨rfl, hb3⟩
        have HB3 := Lib.hid ((below_drew HB.out).trans (Below.mono hb3 (below_drew HB.out).size))
        clear hb3
        go_wp2_with fail
        refine hK.out _ _ (HS.out _ HB3.out) (fun hHeld => ?_)
        clear hK K
        try simp only [Act.put, List.setIfInBounds_toArray, List.set_cons_zero, List.set_cons_succ]
        refine wpAnyH_take (i := 20) (oi := ({ dst := some 43, op := Op.binOp BinOp.neq 25 (Operand.tmp 26) (Operand.tmp 42) 25, type := 4, pos := "law.go:52", after := #[{ on := 3, ground := Ground.data }, { on := 19, ground := Ground.data }], guard := none } : Oper)) (v := .bool false) rfl (by kernel_rfl) (by kernel_rfl) (by kernel_rfl) (fun _ _ _ h => h) (Or.inl ⟨by rfl, fun w hSw => by go_simp⟩) hHeld ?_
        simp only [Act.put, List.setIfInBounds_toArray, List.set_cons_zero, List.set_cons_succ]
        refine wpAnyH_done (by kernel_rfl) ?_ _
        clear q1
        go_wp2
        go_roundw
        case rel => exact ⟨k + 1, HG.out, by rfl, HB3⟩
        case measure => simp only [intOf]; omega
      · obtain rfl : k = m := by omega
        have HB := Lib.hid H.out
        clear H
        have HT := Lib.hid (show ∀ u : World, Below w1.heap.size w1 u → Below w.heap.size w u from fun u hu => HB1.out.trans (Below.mono hu HB1.out.size))
        by_cases h2 : n < 2
        · have h2' : (n : Int) < 2 := by omega
          go_wp2_with fail
          refine (HAW.out _ (HT.out _ HB.out)).mono ?_
          rintro e w5 ⟨rfl, hb5⟩
          have HB5 := Lib.hid ((HT.out _ HB.out).trans (Below.mono hb5 (HT.out _ HB.out).size))
          go_wp2_with fail
          go_ret
          exact ⟨rfl, HB5.out⟩
        · have h2' : ¬ (n : Int) < 2 := by omega
          have HRA2 := Lib.hid (HRA.out A1 c1 wr (Kd.C_below HC1.out HB.out) HCC.out (HT.out _ HB.out))
          rw [HX.out.1 (by omega)] at HRA2
          go_wp2_with fail
          refine HRA2.out.mono ?_
          rintro e w3 ⟨rfl, hb3⟩
          have HB3 := Lib.hid ((HT.out _ HB.out).trans (Below.mono hb3 (HT.out _ HB.out).size))
          have HRO3 := Lib.hid (HRO.out _ HB3.out)
          clear hb3
          go_wp2_with fail
          refine HRO3.out.mono ?_
          rintro e w4 ⟨rfl, hb4⟩
          have HB4 := Lib.hid (HB3.out.trans (Below.mono hb4 HB3.out.size))
          clear hb4
          go_wp2_with fail
          refine (HAW.out _ HB4.out).mono ?_
          rintro e w5 ⟨rfl, hb5⟩
          have HB5 := Lib.hid (HB4.out.trans (Below.mono hb5 HB4.out.size))
          clear hb5
          go_wp2_with fail
          go_ret
          exact ⟨rfl, HB5.out⟩
end Go.Proofs.YtlmcdkjobdcflaaDoor.Hand
