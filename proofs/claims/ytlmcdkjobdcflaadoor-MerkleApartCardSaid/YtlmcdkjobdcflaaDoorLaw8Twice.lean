/- The law MerkleTwice: its plain law, and walked. -/
import Derived.Test.YtlmcdkjobdcflaaDoorProg
import Derived.Below
import Derived.Deep.Draws
import Derived.Deep.AppendLies
import Derived.Maps.AppendAt
import Derived.OwnWalk
import Derived.Laws.BytesArg
import Derived.Laws.MakeOwn
import Derived.Laws.OwnMore
import Derived.Deep.OwnRows
import Derived.Tactics
import Derived.Lib.ConvBytes
import Derived.Laws.Slices
import Derived.WalkKit
import Derived.KernelRfl
import Derived.RowKit3
import Derived.Deep.LoopGhost
import Derived.Deep.QuietTactic
import Derived.BigQuiet
import Derived.WideLaws
import Derived.Deep.DeepCutAuto
import Derived.Deep.CutBlock
import Derived.Deep.RegionHeld3
import Derived.Laws.Rows
import Derived.Lib.AppendStr
import Derived.ArgAppend
import Derived.Laws.IdiomCopy
import Derived.OrdersHeld
import Derived.Laws.BitsLemmas
import Derived.RowKit
import Derived.StillTailTactics
import Derived.Test.YtlmcdkjobdcflaaDoorWWords
import Derived.Test.YtlmcdkjobdcflaaDoorWLast
import Derived.Test.YtlmcdkjobdcflaaDoorWMore
import Derived.Lib.Hide
import Derived.Outline
import Derived.Deep.MidRow
import Derived.Deep.WholeRow
import Derived.Deep.DrawnRows
import Derived.Test.YtlmcdkjobdcflaaDoorLaws8
namespace Go.Proofs.YtlmcdkjobdcflaaDoor.Hand
open Go Go.RowKit Go.Proofs.YtlmcdkjobdcflaaDoor.Plain Go.Proofs.YtlmcdkjobdcflaaDoor.PAll Go.Proofs.YtlmcdkjobdcflaaDoorW.PrintWords Go.Proofs.YtlmcdkjobdcflaaDoorW.PrintLast Go.Proofs.YtlmcdkjobdcflaaDoorW.PrintMore
set_option linter.unusedVariables false
set_option linter.unusedSimpArgs false
set_option maxRecDepth 100000
attribute [local go_sem ↓] Go.wp_at_zero Go.wp_at_succ
attribute [-go_sem] loadVar storeVar Instr.buildSlice
theorem rdH_app {xs : List (List Int)} {p : List Int} {i : Nat} (h : i < xs.length) : rdH (xs ++ [p]) i = rdH xs i := by
  unfold rdH
  rw [List.getD_eq_getElem?_getD, List.getD_eq_getElem?_getD, List.getElem?_append_left h]
theorem rdH_last {xs : List (List Int)} {p : List Int} : rdH (xs ++ [p]) xs.length = p := by
  unfold rdH
  simp
theorem twice_above {xs : List (List Int)} (h : xs.length % 2 = 1) : aboveP (xs ++ [rdH xs (xs.length - 1)]) = aboveP xs := by
  unfold aboveP
  rw [List.length_append, List.length_singleton, show (xs.length + 1 + 1) / 2 = (xs.length + 1) / 2 by omega]
  refine List.map_congr_left fun k hk => ?_
  have hk : k < (xs.length + 1) / 2 := by simpa using hk
  unfold aboveAt
  rw [rdH_app (show 2 * k < xs.length by omega), List.length_append, List.length_singleton, Nat.add_sub_cancel]
  by_cases hc : 2 * k + 1 < xs.length
  · rw [show min (2 * k + 1) xs.length = 2 * k + 1 by omega, show min (2 * k + 1) (xs.length - 1) = 2 * k + 1 by omega, rdH_app hc]
  · rw [show min (2 * k + 1) xs.length = xs.length by omega, show min (2 * k + 1) (xs.length - 1) = xs.length - 1 by omega, rdH_last]
theorem twice_root {xs : List (List Int)} (h : xs.length % 2 = 1) (h2 : 2 ≤ xs.length) : rootP (xs ++ [rdH xs (xs.length - 1)]) = rootP xs := by
  rw [← rootP_above (by rw [List.length_append, List.length_singleton]; omega), twice_above h, rootP_above h2]
theorem twice_doub {xs : List (List Int)} (h : xs.length % 2 = 1) (h2 : 2 ≤ xs.length) : doubP (xs ++ [rdH xs (xs.length - 1)]) = true := by
  refine doubAt_mono (i := 1) ?_ _ (by omega)
  show (false || pairedP (xs ++ [rdH xs (xs.length - 1)])) = true
  rw [Bool.false_or]
  refine paired_of (k := (xs.length - 1) / 2) (by rw [List.length_append, List.length_singleton]; omega) ?_
  rw [show 2 * ((xs.length - 1) / 2) + 1 = xs.length by omega, show 2 * ((xs.length - 1) / 2) = xs.length - 1 by omega, rdH_last, rdH_app (by omega)]
  simp
theorem run_build0 (W : World) : (Instr.buildSlice 22 0 #[]).run Tryd.prog W = .ok (.slice (some ⟨W.heap.size, 0, none⟩) 0 0) (W.alloc (.cells #[] 25)) := by kernel_rfl
theorem empty_row (w W : World) (h : w.heap.size ≤ W.heap.size) : Kd.R kH 25 (W.alloc (.cells #[] 25)) w.heap.size (fun _ => True) (.slice (some ⟨W.heap.size, 0, none⟩) 0 0) [] := ⟨fun _ _ => trivial, OwnRow.lit W w.heap.size (ps := ([] : List (List Int))) (inner := []) (Reps.none _ _) h (by simp)⟩
theorem kH_move {w W : World} {base : Nat} {okp : Nat → Prop} {x : List Int} {cs : List Value} (h : kH.K w x cs) : kH.M W base okp x cs := by
  obtain ⟨h1, rfl⟩ := kH_K h
  exact kH_M h1
theorem grown_blk {w w1 : World} {row : Option Nat} {k : Nat} {o : Obj} (hg : w.grownBy w1 row) (h : w.heap[k]? = some o) (hne : some k ≠ row) : w1.heap[k]? = some o := (hg.block k (blk_lt h) hne).trans h
theorem ne_own {k g : Nat} (h : k ≠ g) : some k ≠ (Value.slice (some ⟨g, 0, none⟩) 0 0).ownBlock := by
  intro e
  simp [Value.ownBlock] at e
  omega
theorem alloc_size1 (w : World) (o : Obj) : (w.drew.alloc o).heap.size = w.heap.size + 1 := Array.size_push _
theorem empty_row1 (w : World) (o : Obj) : Kd.R kH 25 ((w.drew.alloc o).alloc (.cells #[] 25)) w.heap.size (fun _ => True) (.slice (some ⟨w.heap.size + 1, 0, none⟩) 0 0) [] := by
  have h := empty_row w (w.drew.alloc o) (by rw [alloc_size1]; omega)
  rw [alloc_size1] at h
  exact h
set_option maxHeartbeats 4000000 in
theorem twicel_calls (A : Option Addr) (n c : Nat) (xs : List (List Int)) (w : World) (hn : n = xs.length) (hr : Kd.C kH w A n xs) (hc : n ≤ c) (hH : Hs xs) (hK : KT w) :
    Calls Tryd.prog 6 #[.slice A n c] w fun e w' => e = .returned (.bool true) ∧ Below w.heap.size w w' := by
  have hm := Kd.C_max hr
  have HAW := Lib.hid (fun (u : World) (hu : Below w.heap.size w u) => awake8_calls u (hK.below hu (Nat.le_refl _)))
  obtain h1 | h1 | h1 | hl : 19 < n ∨ (¬ 19 < n ∧ n % 2 = 0) ∨ (¬ 19 < n ∧ ¬ n % 2 = 0 ∧ n < 2) ∨ ¬ (19 < n ∨ n % 2 = 0 ∨ n < 2) := by omega
  · clear hn hr hH hK
    have f0 : (19 : Int) < (n : Int) := by omega
    go_enter Tryd.func6, Tryd.ntmps6
    go_wp2_with fail
    refine (HAW.out _ (Below.refl _ _)).mono ?_
    rintro e w1 ⟨rfl, hb⟩
    go_wp2_with fail
    go_ret
    exact ⟨rfl, hb⟩
  · clear hn hr hH hK
    have f0 : ¬ (19 : Int) < (n : Int) := by omega
    have f1 : (n : Int) % 2 = 0 := by omega
    go_enter Tryd.func6, Tryd.ntmps6
    go_wp2_with fail
    refine (HAW.out _ (Below.refl _ _)).mono ?_
    rintro e w1 ⟨rfl, hb⟩
    go_wp2_with fail
    go_ret
    exact ⟨rfl, hb⟩
  · clear hn hr hH hK
    have f0 : ¬ (19 : Int) < (n : Int) := by omega
    have f1 : ¬ (n : Int) % 2 = 0 := by omega
    have f2 : (n : Int) < 2 := by omega
    go_enter Tryd.func6, Tryd.ntmps6
    go_wp2_with fail
    refine (HAW.out _ (Below.refl _ _)).mono ?_
    rintro e w1 ⟨rfl, hb⟩
    go_wp2_with fail
    go_ret
    exact ⟨rfl, hb⟩
  · obtain ⟨b, o, rfl, hbl, hrg⟩ := C_hash (by rw [← hn]; exact hr) (by omega)
    obtain ⟨hp, hp32⟩ := hrg (n - 1) (by omega)
    have hpb := hH.any (n - 1)
    have hH2 : Hs (xs ++ [rdH xs (n - 1)]) := by
      intro q hq
      rcases List.mem_append.1 hq with hq | hq
      · exact hH q hq
      · obtain rfl : q = rdH xs (n - 1) := by simpa using hq
        exact hpb
    have HRO := Lib.hid (fun (u : World) (hu : Below w.heap.size w u) => root_calls (some ⟨b, o, none⟩) n c xs u hn (Kd.C_below hr hu) hc (by omega) hH (hK.below hu (Nat.le_refl _)))
    have hlen : (xs ++ [rdH xs (n - 1)]).length = n + 1 := by rw [List.length_append, List.length_singleton, ← hn]
    have HRM := Lib.hid (fun (A2 : Option Addr) (c2 : Nat) (u : World) (hr2 : Kd.C kH u A2 (xs ++ [rdH xs (n - 1)]).length (xs ++ [rdH xs (n - 1)])) (hc2 : (xs ++ [rdH xs (n - 1)]).length ≤ c2) (hu : Below w.heap.size w u) => root_calls A2 (xs ++ [rdH xs (n - 1)]).length c2 (xs ++ [rdH xs (n - 1)]) u rfl hr2 hc2 (by omega) hH2 (hK.below hu (Nat.le_refl _)))
    have HDM := Lib.hid (fun (A2 : Option Addr) (c2 : Nat) (u : World) (hr2 : Kd.C kH u A2 (xs ++ [rdH xs (n - 1)]).length (xs ++ [rdH xs (n - 1)])) (hc2 : (xs ++ [rdH xs (n - 1)]).length ≤ c2) (hu : Below w.heap.size w u) => doubled_calls A2 (xs ++ [rdH xs (n - 1)]).length c2 (xs ++ [rdH xs (n - 1)]) u rfl hr2 hc2 (by omega) hH2 (hK.below hu (Nat.le_refl _)))
    have hxr : rootP (xs ++ [rdH xs (n - 1)]) = rootP xs := by rw [hn]; exact twice_root (by omega) (by omega)
    have hxd : doubP (xs ++ [rdH xs (n - 1)]) = true := by rw [hn]; exact twice_doub (by omega) (by omega)
    have q0 := fun u => eqH (rootP xs) (rootP xs) (rootP_hash hH).1 (rootP_hash hH).1 u
    simp only [beq_self_eq_true] at q0
    rw [hxr] at HRM
    rw [hxd] at HDM
    rw [hlen] at HRM HDM
    obtain ⟨R, hR⟩ : ∃ R, (nums .u8 (rootP xs)).toArray = R := ⟨_, rfl⟩
    rw [hR] at HRO HRM q0
    obtain ⟨p, hpe⟩ : ∃ p, rdH xs (n - 1) = p := ⟨_, rfl⟩
    rw [hpe] at hp hp32 HRM HDM hpb
    obtain ⟨P, hP⟩ : ∃ P, nums .u8 p = P := ⟨_, rfl⟩
    rw [hP] at hp
    have hPl : P.length = 32 := by rw [← hP, nums_len]; exact hp32
    have HRX := Lib.hid (fun (u : World) (hu : Below w.heap.size w u) => Kd.C_below hr hu)
    have HS := Lib.hid (fun (u : World) (hu : Below w.heap.size w u) => range_below hu hbl hp)
    have hu := Tryd.underlying25
    have hi1 : (Tryd.prog.info? 25).map (·.size) = some P.length := by rw [hPl]; exact (zero_of_info infoHash).2
    have hbs := fun u => run_hash1 p hp32 u
    rw [hP] at hbs
    have HC1 := Lib.hid (fun (u : World) (g : Nat) (hg : u.heap[g]? = some (.cells P.toArray 25 (0, 0))) => (show Kd.C kH u (some ⟨g, 0, none⟩) 1 [p] from C_hash1 hp32 (by rw [hP]; exact hg)))
    have HE := Lib.hid (fun (u : World) (h : w.heap.size ≤ u.heap.size) => empty_row w u h)
    have hb0 := fun u => run_build0 u
    have HLL := Lib.hid (show (0 + n) * 32 ≤ 140737488355328 ∧ (xs.length + 1) * 32 ≤ 140737488355328 by omega)
    have HH := Lib.hid hH
    have HN := Lib.hid hn
    have HLN := Lib.hid (show (xs ++ [p]).length = n + 1 by rw [List.length_append, List.length_singleton, ← hn])
    have g0 : ¬ (19 : Int) < (n : Int) := by omega
    have g1 : ¬ (n : Int) % 2 = 0 := by omega
    have g2 : ¬ (n : Int) < 2 := by omega
    obtain ⟨j, hj⟩ : ∃ j, n - 1 = j := ⟨_, rfl⟩
    have hw1 : IntKind.i64.wrap (j : Int) = (j : Int) := IntWalk.i64_in _ (by omega)
    have hj1 : (n : Int) - 1 = (j : Int) := by omega
    have g3 : (0 : Int) ≤ (j : Int) := by omega
    have g4 : (j : Int) < (n : Int) := by omega
    rw [hj] at HS
    clear hn hr hH hK hR hpe hP hPl hp hpb hp32 hxr hxd hlen hrg hbl hH2 hj hl
    go_enter Tryd.func6, Tryd.ntmps6
    go_wp2_with fail
    have hHeld := HS.out _ (below_drew (Below.refl w.heap.size w))
    refine wp_region_held (S := fun u => u.rangeAt b (o + j * 32) P) (by kernel_rfl) ?_
    change wpAnyH _ _ _ _ _ _ _ _ (World.drew _)
    refine wpAnyH_take (i := 1) (oi := ({ dst := some 20, op := Op.move (Operand.tmp 0), type := 22, pos := "law.go:70", after := #[], guard := none } : Oper)) (v := .slice (some ⟨b, o, none⟩) n c) rfl (by kernel_rfl) (by kernel_rfl) (by kernel_rfl) (fun _ _ _ h => h) (Or.inl ⟨by rfl, fun w hSw => by go_simp⟩) hHeld ?_
    simp only [Act.put, List.setIfInBounds_toArray, List.set_cons_zero, List.set_cons_succ]
    refine wpAnyH_take (i := 3) (oi := ({ dst := some 22, op := Op.move (Operand.tmp 0), type := 22, pos := "law.go:70", after := #[], guard := none } : Oper)) (v := .slice (some ⟨b, o, none⟩) n c) rfl (by kernel_rfl) (by kernel_rfl) (by kernel_rfl) (fun _ _ _ h => h) (Or.inl ⟨by rfl, fun w hSw => by go_simp⟩) hHeld ?_
    simp only [Act.put, List.setIfInBounds_toArray, List.set_cons_zero, List.set_cons_succ]
    refine wpAnyH_take (i := 4) (oi := ({ dst := some 23, op := Op.move (Operand.tmp 0), type := 22, pos := "law.go:70", after := #[], guard := none } : Oper)) (v := .slice (some ⟨b, o, none⟩) n c) rfl (by kernel_rfl) (by kernel_rfl) (by kernel_rfl) (fun _ _ _ h => h) (Or.inl ⟨by rfl, fun w hSw => by go_simp⟩) hHeld ?_
    simp only [Act.put, List.setIfInBounds_toArray, List.set_cons_zero, List.set_cons_succ]
    refine wpAnyH_take (i := 5) (oi := ({ dst := some 24, op := Op.call { callee := Callee.builtin Builtin.len, args := #[Operand.tmp 23], argTypes := #[22] }, type := 3, pos := "law.go:70", after := #[{ on := 4, ground := Ground.data }], guard := none } : Oper)) (v := .int .i64 (n : Int)) rfl (by kernel_rfl) (by kernel_rfl) (by kernel_rfl) (fun _ _ _ h => h) (Or.inl ⟨by rfl, fun w hSw => by go_simp⟩) hHeld ?_
    simp only [Act.put, List.setIfInBounds_toArray, List.set_cons_zero, List.set_cons_succ]
    refine wpAnyH_take (i := 6) (oi := ({ dst := some 25, op := Op.binOp BinOp.sub 3 (Operand.tmp 24) (Operand.const (Value.int IntKind.i64 1)) 3, type := 3, pos := "law.go:70", after := #[{ on := 5, ground := Ground.data }], guard := none } : Oper)) (v := .int .i64 (j : Int)) rfl (by kernel_rfl) (by kernel_rfl) (by kernel_rfl) (fun _ _ _ h => h) (Or.inl ⟨by rfl, fun w hSw => by go_simp⟩) hHeld ?_
    simp only [Act.put, List.setIfInBounds_toArray, List.set_cons_zero, List.set_cons_succ]
    refine wpAnyH_take (i := 7) (oi := ({ dst := some 26, op := Op.indexAddr 22 (Operand.tmp 22) (Operand.tmp 25), type := 0, pos := "law.go:70", after := #[{ on := 3, ground := Ground.data }, { on := 6, ground := Ground.data }], guard := none } : Oper)) (v := .pointer (some ⟨b, o + j * 32, none⟩)) rfl (by kernel_rfl) (by kernel_rfl) (by kernel_rfl) (fun _ _ _ h => h) (Or.inl ⟨by rfl, fun w hSw => by go_simp⟩) hHeld ?_
    simp only [Act.put, List.setIfInBounds_toArray, List.set_cons_zero, List.set_cons_succ]
    refine wpAnyH_take (i := 8) (oi := ({ dst := some 27, op := Op.load 25 (Operand.tmp 26), type := 25, pos := "law.go:70", after := #[{ on := 7, ground := Ground.data }], guard := none } : Oper)) (v := .agg P.toArray) rfl (by kernel_rfl) (by kernel_rfl) (by kernel_rfl) (fun _ _ _ h => h) (yieldsIf_load_mid (by rfl) _ _ rfl b (o + j * 32) rfl P _ (fun _ h => h) hu rfl hi1) hHeld ?_
    simp only [Act.put, List.setIfInBounds_toArray, List.set_cons_zero, List.set_cons_succ]
    refine wpAnyH_ready (rs := [0, 9]) (by kernel_rfl) (by simp) ?_
    refine AllReadyH.cons (o := ({ dst := some 19, op := Op.buildSlice 22 0 #[], type := 22, pos := "law.go:70", after := #[], guard := none } : Oper)) rfl (fun K hK => ?_) (AllReadyH.cons (o := ({ dst := some 28, op := Op.buildSlice 22 1 #[(0, Operand.tmp 27)], type := 22, pos := "law.go:70", after := #[{ on := 8, ground := Ground.data }], guard := none } : Oper)) rfl (fun K hK => ?_) AllReadyH.nil)
    · skip
      go_simp
      refine hK.out _ _ (HS.out _ (below_alloc (below_drew (Below.refl w.heap.size w)) (.cells #[] 25))) (fun hHeld => ?_)
      clear hK K
      try simp only [Act.put, List.setIfInBounds_toArray, List.set_cons_zero, List.set_cons_succ]
      refine wpAnyH_ready (rs := [2, 9]) (by kernel_rfl) (by simp) ?_
      refine AllReadyH.cons (o := ({ dst := some 21, op := Op.call { callee := Callee.builtin Builtin.append, args := #[Operand.tmp 19, Operand.tmp 20], argTypes := #[22, 22] }, type := 22, pos := "law.go:70", after := #[{ on := 0, ground := Ground.data }, { on := 1, ground := Ground.data }], guard := none } : Oper)) rfl (fun K hK => ?_) (AllReadyH.cons (o := ({ dst := some 28, op := Op.buildSlice 22 1 #[(0, Operand.tmp 27)], type := 22, pos := "law.go:70", after := #[{ on := 8, ground := Ground.data }], guard := none } : Oper)) rfl (fun K hK => ?_) AllReadyH.nil)
      · skip
        refine Kd.R_append_rows_step kH (w0 := w) w.heap.size (by rfl) (.tmp 19) (.tmp 20) 22 25 (.agg (nums .u8 (List.replicate 32 0)).toArray) 32 (by rfl) Tryd.underlying22 infoH3 rfl (by decide) (by decide) _ [] xs (some ⟨b, o, none⟩) n c (fun _ => True) (fun _ => False) (by rfl) (by rfl) (HE.out _ (Nat.le_refl _)) (HRX.out _ (below_alloc (below_drew (Below.refl w.heap.size w)) (.cells #[] 25))) (fun _ _ h => kH_move h) (fun _ h => h.elim) (fun _ _ => trivial) (below_alloc (below_drew (Below.refl w.heap.size w)) (.cells #[] 25)) (below_alloc (below_drew (Below.refl w.heap.size w)) (.cells #[] 25)).size HLL.out.1 ?_
        intro v3 w3 ho hb hg hat
        have HR3 := Lib.hid ho
        have HB3 := Lib.hid hb
        have HG3 := Lib.hid hg
        clear ho hb hg hat
        refine hK.out _ _ (HS.out _ HB3.out) (fun hHeld => ?_)
        clear hK K
        try simp only [Act.put, List.setIfInBounds_toArray, List.set_cons_zero, List.set_cons_succ]
        refine wpAnyH_ready (rs := [9]) (by kernel_rfl) (by simp) ?_
        refine AllReadyH.cons (o := ({ dst := some 28, op := Op.buildSlice 22 1 #[(0, Operand.tmp 27)], type := 22, pos := "law.go:70", after := #[{ on := 8, ground := Ground.data }], guard := none } : Oper)) rfl (fun K hK => ?_) AllReadyH.nil
        go_simp
        refine hK.out _ _ (HS.out _ (below_alloc HB3.out (.cells P.toArray 25))) (fun hHeld => ?_)
        clear hK K
        try simp only [Act.put, List.setIfInBounds_toArray, List.set_cons_zero, List.set_cons_succ]
        refine wpAnyH_ready (rs := [10]) (by kernel_rfl) (by simp) ?_
        refine AllReadyH.cons (o := ({ dst := some 29, op := Op.call { callee := Callee.builtin Builtin.append, args := #[Operand.tmp 21, Operand.tmp 28], argTypes := #[22, 22] }, type := 22, pos := "law.go:70", after := #[{ on := 2, ground := Ground.data }, { on := 9, ground := Ground.data }, { on := 2, ground := Ground.chain }], guard := none } : Oper)) rfl (fun K hK => ?_) AllReadyH.nil
        refine Kd.R_append_rows_step kH (w0 := w) w.heap.size (by rfl) (.tmp 21) (.tmp 28) 22 25 (.agg (nums .u8 (List.replicate 32 0)).toArray) 32 (by rfl) Tryd.underlying22 infoH3 rfl (by decide) (by decide) v3 xs [p] (some ⟨w3.heap.size, 0, none⟩) 1 1 (fun _ => True) (fun _ => False) (by rfl) (by rfl) (Kd.R_alloc HR3.out _) (HC1.out _ _ (heap_alloc_new w3 _)) (fun _ _ h => kH_move h) (fun _ h => h.elim) (fun _ _ => trivial) (below_alloc HB3.out (.cells P.toArray 25)) (below_alloc HB3.out (.cells P.toArray 25)).size HLL.out.2 ?_
        intro v4 w4 ho hb hg hat
        have HR4 := Lib.hid ho
        have HB4 := Lib.hid hb
        have HG4 := Lib.hid hg
        clear ho hb hg hat
        refine hK.out _ _ (HS.out _ HB4.out) (fun hHeld => ?_)
        clear hK K
        try simp only [Act.put, List.setIfInBounds_toArray, List.set_cons_zero, List.set_cons_succ]
        refine wpAnyH_take (i := 11) (oi := ({ dst := some 3, op := Op.assign (Operand.tmp 29), type := 22, pos := "law.go:70", after := #[{ on := 10, ground := Ground.data }, { on := 10, ground := Ground.chain }, { on := 0, ground := Ground.phase }, { on := 1, ground := Ground.phase }, { on := 2, ground := Ground.phase }, { on := 3, ground := Ground.phase }, { on := 4, ground := Ground.phase }, { on := 5, ground := Ground.phase }, { on := 6, ground := Ground.phase }, { on := 7, ground := Ground.phase }, { on := 8, ground := Ground.phase }, { on := 9, ground := Ground.phase }, { on := 10, ground := Ground.phase }], guard := none } : Oper)) (v := v4) rfl (by kernel_rfl) (by kernel_rfl) (by kernel_rfl) (fun _ _ _ h => h) (Or.inl ⟨by rfl, fun w hSw => by go_simp⟩) hHeld ?_
        simp only [Act.put, List.setIfInBounds_toArray, List.set_cons_zero, List.set_cons_succ]
        refine wpAnyH_done (by kernel_rfl) ?_ _
        clear hbs hb0 hi1 hu hHeld hw1
        obtain ⟨A4, c4, rfl, hc4, hC4⟩ := Kd.R_reads HR4.out
        rw [HLN.out] at hc4 hC4 ⊢
        have HRM4 := Lib.hid (HRM.out A4 c4 w4 hC4 hc4 HB4.out)
        have HDM4 := Lib.hid (fun (u : World) (hu : Below w4.heap.size w4 u) => HDM.out A4 c4 u (Kd.C_below hC4 hu) hc4 (HB4.out.trans (Below.mono hu HB4.out.size)))
        clear hC4 hc4
        go_wp2_with fail
        refine HRM4.out.mono ?_
        rintro e w5 ⟨rfl, hb5⟩
        have HB5 := Lib.hid hb5
        have HT5 := Lib.hid (HB4.out.trans (Below.mono hb5 HB4.out.size))
        have HRO5 := Lib.hid (HRO.out _ HT5.out)
        clear hb5
        go_wp2_with fail
        refine HRO5.out.mono ?_
        rintro e w6 ⟨rfl, hb6⟩
        have HB6 := Lib.hid (HB5.out.trans (Below.mono hb6 HB5.out.size))
        have HT6 := Lib.hid (HB4.out.trans (Below.mono HB6.out HB4.out.size))
        have HDM6 := Lib.hid (HDM4.out _ HB6.out)
        clear hb6
        go_wp2_with fail
        refine HDM6.out.mono ?_
        rintro e w7 ⟨rfl, hb7⟩
        have HT7 := Lib.hid (HT6.out.trans (Below.mono hb7 HT6.out.size))
        clear hb7
        go_wp2_with fail
        refine (HAW.out _ HT7.out).mono ?_
        rintro e w8 ⟨rfl, hb8⟩
        have HT8 := Lib.hid (HT7.out.trans (Below.mono hb8 HT7.out.size))
        clear hb8
        go_wp2_with fail
        go_ret
        exact ⟨rfl, HT8.out⟩
      · skip
        go_simp
        refine hK.out _ _ (HS.out _ (below_alloc (below_alloc (below_drew (Below.refl w.heap.size w)) (.cells #[] 25)) (.cells P.toArray 25))) (fun hHeld => ?_)
        clear hK K
        try simp only [Act.put, List.setIfInBounds_toArray, List.set_cons_zero, List.set_cons_succ]
        refine wpAnyH_ready (rs := [2]) (by kernel_rfl) (by simp) ?_
        refine AllReadyH.cons (o := ({ dst := some 21, op := Op.call { callee := Callee.builtin Builtin.append, args := #[Operand.tmp 19, Operand.tmp 20], argTypes := #[22, 22] }, type := 22, pos := "law.go:70", after := #[{ on := 0, ground := Ground.data }, { on := 1, ground := Ground.data }], guard := none } : Oper)) rfl (fun K hK => ?_) AllReadyH.nil
        refine Kd.R_append_rows_step kH (w0 := w) w.heap.size (by rfl) (.tmp 19) (.tmp 20) 22 25 (.agg (nums .u8 (List.replicate 32 0)).toArray) 32 (by rfl) Tryd.underlying22 infoH3 rfl (by decide) (by decide) _ [] xs (some ⟨b, o, none⟩) n c (fun _ => True) (fun _ => False) (by rfl) (by rfl) (Kd.R_alloc (HE.out _ (Nat.le_refl _)) _) (HRX.out _ (below_alloc (below_alloc (below_drew (Below.refl w.heap.size w)) (.cells #[] 25)) (.cells P.toArray 25))) (fun _ _ h => kH_move h) (fun _ h => h.elim) (fun _ _ => trivial) (below_alloc (below_alloc (below_drew (Below.refl w.heap.size w)) (.cells #[] 25)) (.cells P.toArray 25)) (below_alloc (below_alloc (below_drew (Below.refl w.heap.size w)) (.cells #[] 25)) (.cells P.toArray 25)).size HLL.out.1 ?_
        intro v3 w3 ho hb hg hat
        have HR3 := Lib.hid ho
        have HB3 := Lib.hid hb
        have HG3 := Lib.hid hg
        clear ho hb hg hat
        refine hK.out _ _ (HS.out _ HB3.out) (fun hHeld => ?_)
        clear hK K
        try simp only [Act.put, List.setIfInBounds_toArray, List.set_cons_zero, List.set_cons_succ]
        refine wpAnyH_ready (rs := [10]) (by kernel_rfl) (by simp) ?_
        refine AllReadyH.cons (o := ({ dst := some 29, op := Op.call { callee := Callee.builtin Builtin.append, args := #[Operand.tmp 21, Operand.tmp 28], argTypes := #[22, 22] }, type := 22, pos := "law.go:70", after := #[{ on := 2, ground := Ground.data }, { on := 9, ground := Ground.data }, { on := 2, ground := Ground.chain }], guard := none } : Oper)) rfl (fun K hK => ?_) AllReadyH.nil
        refine Kd.R_append_rows_step kH (w0 := w) w.heap.size (by rfl) (.tmp 21) (.tmp 28) 22 25 (.agg (nums .u8 (List.replicate 32 0)).toArray) 32 (by rfl) Tryd.underlying22 infoH3 rfl (by decide) (by decide) v3 xs [p] (some ⟨w.heap.size + 1, 0, none⟩) 1 1 (fun _ => True) (fun _ => False) (by rfl) (by rfl) (HR3.out) (HC1.out _ _ (grown_blk HG3.out (heap_alloc2_new w.drew _ _) (ne_own (show w.heap.size + 1 ≠ w.heap.size by omega)))) (fun _ _ h => kH_move h) (fun _ h => h.elim) (fun _ _ => trivial) (HB3.out) (HB3.out).size HLL.out.2 ?_
        intro v4 w4 ho hb hg hat
        have HR4 := Lib.hid ho
        have HB4 := Lib.hid hb
        have HG4 := Lib.hid hg
        clear ho hb hg hat
        refine hK.out _ _ (HS.out _ HB4.out) (fun hHeld => ?_)
        clear hK K
        try simp only [Act.put, List.setIfInBounds_toArray, List.set_cons_zero, List.set_cons_succ]
        refine wpAnyH_take (i := 11) (oi := ({ dst := some 3, op := Op.assign (Operand.tmp 29), type := 22, pos := "law.go:70", after := #[{ on := 10, ground := Ground.data }, { on := 10, ground := Ground.chain }, { on := 0, ground := Ground.phase }, { on := 1, ground := Ground.phase }, { on := 2, ground := Ground.phase }, { on := 3, ground := Ground.phase }, { on := 4, ground := Ground.phase }, { on := 5, ground := Ground.phase }, { on := 6, ground := Ground.phase }, { on := 7, ground := Ground.phase }, { on := 8, ground := Ground.phase }, { on := 9, ground := Ground.phase }, { on := 10, ground := Ground.phase }], guard := none } : Oper)) (v := v4) rfl (by kernel_rfl) (by kernel_rfl) (by kernel_rfl) (fun _ _ _ h => h) (Or.inl ⟨by rfl, fun w hSw => by go_simp⟩) hHeld ?_
        simp only [Act.put, List.setIfInBounds_toArray, List.set_cons_zero, List.set_cons_succ]
        refine wpAnyH_done (by kernel_rfl) ?_ _
        clear hbs hb0 hi1 hu hHeld hw1
        obtain ⟨A4, c4, rfl, hc4, hC4⟩ := Kd.R_reads HR4.out
        rw [HLN.out] at hc4 hC4 ⊢
        have HRM4 := Lib.hid (HRM.out A4 c4 w4 hC4 hc4 HB4.out)
        have HDM4 := Lib.hid (fun (u : World) (hu : Below w4.heap.size w4 u) => HDM.out A4 c4 u (Kd.C_below hC4 hu) hc4 (HB4.out.trans (Below.mono hu HB4.out.size)))
        clear hC4 hc4
        go_wp2_with fail
        refine HRM4.out.mono ?_
        rintro e w5 ⟨rfl, hb5⟩
        have HB5 := Lib.hid hb5
        have HT5 := Lib.hid (HB4.out.trans (Below.mono hb5 HB4.out.size))
        have HRO5 := Lib.hid (HRO.out _ HT5.out)
        clear hb5
        go_wp2_with fail
        refine HRO5.out.mono ?_
        rintro e w6 ⟨rfl, hb6⟩
        have HB6 := Lib.hid (HB5.out.trans (Below.mono hb6 HB5.out.size))
        have HT6 := Lib.hid (HB4.out.trans (Below.mono HB6.out HB4.out.size))
        have HDM6 := Lib.hid (HDM4.out _ HB6.out)
        clear hb6
        go_wp2_with fail
        refine HDM6.out.mono ?_
        rintro e w7 ⟨rfl, hb7⟩
        have HT7 := Lib.hid (HT6.out.trans (Below.mono hb7 HT6.out.size))
        clear hb7
        go_wp2_with fail
        refine (HAW.out _ HT7.out).mono ?_
        rintro e w8 ⟨rfl, hb8⟩
        have HT8 := Lib.hid (HT7.out.trans (Below.mono hb8 HT7.out.size))
        clear hb8
        go_wp2_with fail
        go_ret
        exact ⟨rfl, HT8.out⟩
    · skip
      go_simp
      refine hK.out _ _ (HS.out _ (below_alloc (below_drew (Below.refl w.heap.size w)) (.cells P.toArray 25))) (fun hHeld => ?_)
      clear hK K
      try simp only [Act.put, List.setIfInBounds_toArray, List.set_cons_zero, List.set_cons_succ]
      refine wpAnyH_ready (rs := [0]) (by kernel_rfl) (by simp) ?_
      refine AllReadyH.cons (o := ({ dst := some 19, op := Op.buildSlice 22 0 #[], type := 22, pos := "law.go:70", after := #[], guard := none } : Oper)) rfl (fun K hK => ?_) AllReadyH.nil
      go_simp
      refine hK.out _ _ (HS.out _ (below_alloc (below_alloc (below_drew (Below.refl w.heap.size w)) (.cells P.toArray 25)) (.cells #[] 25))) (fun hHeld => ?_)
      clear hK K
      try simp only [Act.put, List.setIfInBounds_toArray, List.set_cons_zero, List.set_cons_succ]
      refine wpAnyH_ready (rs := [2]) (by kernel_rfl) (by simp) ?_
      refine AllReadyH.cons (o := ({ dst := some 21, op := Op.call { callee := Callee.builtin Builtin.append, args := #[Operand.tmp 19, Operand.tmp 20], argTypes := #[22, 22] }, type := 22, pos := "law.go:70", after := #[{ on := 0, ground := Ground.data }, { on := 1, ground := Ground.data }], guard := none } : Oper)) rfl (fun K hK => ?_) AllReadyH.nil
      refine Kd.R_append_rows_step kH (w0 := w) w.heap.size (by rfl) (.tmp 19) (.tmp 20) 22 25 (.agg (nums .u8 (List.replicate 32 0)).toArray) 32 (by rfl) Tryd.underlying22 infoH3 rfl (by decide) (by decide) _ [] xs (some ⟨b, o, none⟩) n c (fun _ => True) (fun _ => False) (by rfl) (by rfl) (empty_row1 w _) (HRX.out _ (below_alloc (below_alloc (below_drew (Below.refl w.heap.size w)) (.cells P.toArray 25)) (.cells #[] 25))) (fun _ _ h => kH_move h) (fun _ h => h.elim) (fun _ _ => trivial) (below_alloc (below_alloc (below_drew (Below.refl w.heap.size w)) (.cells P.toArray 25)) (.cells #[] 25)) (below_alloc (below_alloc (below_drew (Below.refl w.heap.size w)) (.cells P.toArray 25)) (.cells #[] 25)).size HLL.out.1 ?_
      intro v3 w3 ho hb hg hat
      have HR3 := Lib.hid ho
      have HB3 := Lib.hid hb
      have HG3 := Lib.hid hg
      clear ho hb hg hat
      refine hK.out _ _ (HS.out _ HB3.out) (fun hHeld => ?_)
      clear hK K
      try simp only [Act.put, List.setIfInBounds_toArray, List.set_cons_zero, List.set_cons_succ]
      refine wpAnyH_ready (rs := [10]) (by kernel_rfl) (by simp) ?_
      refine AllReadyH.cons (o := ({ dst := some 29, op := Op.call { callee := Callee.builtin Builtin.append, args := #[Operand.tmp 21, Operand.tmp 28], argTypes := #[22, 22] }, type := 22, pos := "law.go:70", after := #[{ on := 2, ground := Ground.data }, { on := 9, ground := Ground.data }, { on := 2, ground := Ground.chain }], guard := none } : Oper)) rfl (fun K hK => ?_) AllReadyH.nil
      refine Kd.R_append_rows_step kH (w0 := w) w.heap.size (by rfl) (.tmp 21) (.tmp 28) 22 25 (.agg (nums .u8 (List.replicate 32 0)).toArray) 32 (by rfl) Tryd.underlying22 infoH3 rfl (by decide) (by decide) v3 xs [p] (some ⟨w.heap.size, 0, none⟩) 1 1 (fun _ => True) (fun _ => False) (by rfl) (by rfl) (HR3.out) (HC1.out _ _ (grown_blk HG3.out (heap_alloc2_old w.drew _ _) (ne_own (show w.heap.size ≠ w.heap.size + 1 by omega)))) (fun _ _ h => kH_move h) (fun _ h => h.elim) (fun _ _ => trivial) (HB3.out) (HB3.out).size HLL.out.2 ?_
      intro v4 w4 ho hb hg hat
      have HR4 := Lib.hid ho
      have HB4 := Lib.hid hb
      have HG4 := Lib.hid hg
      clear ho hb hg hat
      refine hK.out _ _ (HS.out _ HB4.out) (fun hHeld => ?_)
      clear hK K
      try simp only [Act.put, List.setIfInBounds_toArray, List.set_cons_zero, List.set_cons_succ]
      refine wpAnyH_take (i := 11) (oi := ({ dst := some 3, op := Op.assign (Operand.tmp 29), type := 22, pos := "law.go:70", after := #[{ on := 10, ground := Ground.data }, { on := 10, ground := Ground.chain }, { on := 0, ground := Ground.phase }, { on := 1, ground := Ground.phase }, { on := 2, ground := Ground.phase }, { on := 3, ground := Ground.phase }, { on := 4, ground := Ground.phase }, { on := 5, ground := Ground.phase }, { on := 6, ground := Ground.phase }, { on := 7, ground := Ground.phase }, { on := 8, ground := Ground.phase }, { on := 9, ground := Ground.phase }, { on := 10, ground := Ground.phase }], guard := none } : Oper)) (v := v4) rfl (by kernel_rfl) (by kernel_rfl) (by kernel_rfl) (fun _ _ _ h => h) (Or.inl ⟨by rfl, fun w hSw => by go_simp⟩) hHeld ?_
      simp only [Act.put, List.setIfInBounds_toArray, List.set_cons_zero, List.set_cons_succ]
      refine wpAnyH_done (by kernel_rfl) ?_ _
      clear hbs hb0 hi1 hu hHeld hw1
      obtain ⟨A4, c4, rfl, hc4, hC4⟩ := Kd.R_reads HR4.out
      rw [HLN.out] at hc4 hC4 ⊢
      have HRM4 := Lib.hid (HRM.out A4 c4 w4 hC4 hc4 HB4.out)
      have HDM4 := Lib.hid (fun (u : World) (hu : Below w4.heap.size w4 u) => HDM.out A4 c4 u (Kd.C_below hC4 hu) hc4 (HB4.out.trans (Below.mono hu HB4.out.size)))
      clear hC4 hc4
      go_wp2_with fail
      refine HRM4.out.mono ?_
      rintro e w5 ⟨rfl, hb5⟩
      have HB5 := Lib.hid hb5
      have HT5 := Lib.hid (HB4.out.trans (Below.mono hb5 HB4.out.size))
      have HRO5 := Lib.hid (HRO.out _ HT5.out)
      clear hb5
      go_wp2_with fail
      refine HRO5.out.mono ?_
      rintro e w6 ⟨rfl, hb6⟩
      have HB6 := Lib.hid (HB5.out.trans (Below.mono hb6 HB5.out.size))
      have HT6 := Lib.hid (HB4.out.trans (Below.mono HB6.out HB4.out.size))
      have HDM6 := Lib.hid (HDM4.out _ HB6.out)
      clear hb6
      go_wp2_with fail
      refine HDM6.out.mono ?_
      rintro e w7 ⟨rfl, hb7⟩
      have HT7 := Lib.hid (HT6.out.trans (Below.mono hb7 HT6.out.size))
      clear hb7
      go_wp2_with fail
      refine (HAW.out _ HT7.out).mono ?_
      rintro e w8 ⟨rfl, hb8⟩
      have HT8 := Lib.hid (HT7.out.trans (Below.mono hb8 HT7.out.size))
      clear hb8
      go_wp2_with fail
      go_ret
      exact ⟨rfl, HT8.out⟩
end Go.Proofs.YtlmcdkjobdcflaaDoor.Hand
