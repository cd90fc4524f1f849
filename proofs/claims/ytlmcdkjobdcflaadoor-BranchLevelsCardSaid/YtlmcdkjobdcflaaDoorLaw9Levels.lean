/- The law BranchLevels: walked. -/
import Derived.Test.YtlmcdkjobdcflaaDoorProg
import Derived.Below
import Derived.Deep.Draws
import Derived.Deep.AppendLies
import Derived.Maps.AppendAt
import Derived.OwnWalk
import Derived.Laws.BytesArg
import Derived.Laws.MakeOwn
import Derived.Laws.OwnMore
import Derived.Deep.OwnRows
import Derived.Tactics
import Derived.Lib.ConvBytes
import Derived.Laws.Slices
import Derived.WalkKit
import Derived.KernelRfl
import Derived.RowKit3
import Derived.Deep.LoopGhost
import Derived.Deep.QuietTactic
import Derived.BigQuiet
import Derived.WideLaws
import Derived.Deep.DeepCutAuto
import Derived.Deep.CutBlock
import Derived.Deep.RegionHeld3
import Derived.Laws.Rows
import Derived.Lib.AppendStr
import Derived.ArgAppend
import Derived.Laws.IdiomCopy
import Derived.OrdersHeld
import Derived.Laws.BitsLemmas
import Derived.RowKit
import Derived.StillTailTactics
import Derived.Test.YtlmcdkjobdcflaaDoorWWords
import Derived.Test.YtlmcdkjobdcflaaDoorWLast
import Derived.Test.YtlmcdkjobdcflaaDoorWMore
import Derived.Lib.Hide
import Derived.Outline
import Derived.Deep.MidRow
import Derived.Deep.WholeRow
import Derived.Deep.DrawnRows
import Derived.Test.YtlmcdkjobdcflaaDoorLongRow
namespace Go.Proofs.YtlmcdkjobdcflaaDoor.Hand
open Go Go.RowKit Go.Proofs.YtlmcdkjobdcflaaDoor.Plain Go.Proofs.YtlmcdkjobdcflaaDoor.PAll Go.Proofs.YtlmcdkjobdcflaaDoorW.PrintWords Go.Proofs.YtlmcdkjobdcflaaDoorW.PrintLast Go.Proofs.YtlmcdkjobdcflaaDoorW.PrintMore
set_option linter.unusedVariables false
set_option linter.unusedSimpArgs false
set_option maxRecDepth 100000
attribute [local go_sem ↓] Go.wp_at_zero Go.wp_at_succ
attribute [-go_sem] loadVar storeVar Instr.buildSlice
def chain6 (a0 : Act) (x39 x42 x44 x45 x9 x46 : Value) : Act := (((((a0.put (some 39) x39).put (some 42) x42).put (some 44) x44).put (some 45) x45).put (some 9) x9).put (some 46) x46
def ord6 (b4 b7 b9 b10 b11 b12 b13 : Bool) : Prop := (b7 = true → b4 = true) ∧ (b10 = true → b7 = true ∧ b9 = true) ∧ (b11 = true → b10 = true) ∧ (b13 = true → b11 = true ∧ b12 = true)
theorem chain_e39 (a0 : Act) (x39 x42 x44 x45 x9 x46 : Value) (h : 46 < a0.tmps.size) : (chain6 a0 x39 x42 x44 x45 x9 x46).eval (.tmp 39) = x39 := by
  unfold chain6
  rw [eval_other _ (show (46 : Tmp) ≠ 39 by decide), eval_other _ (show (9 : Tmp) ≠ 39 by decide), eval_other _ (show (45 : Tmp) ≠ 39 by decide), eval_other _ (show (44 : Tmp) ≠ 39 by decide), eval_other _ (show (42 : Tmp) ≠ 39 by decide), eval_same _ _ _ (by (try simp only [put_size]); exact Nat.lt_of_le_of_lt (by decide) h)]
theorem chain_e42 (a0 : Act) (x39 x42 x44 x45 x9 x46 : Value) (h : 46 < a0.tmps.size) : (chain6 a0 x39 x42 x44 x45 x9 x46).eval (.tmp 42) = x42 := by
  unfold chain6
  rw [eval_other _ (show (46 : Tmp) ≠ 42 by decide), eval_other _ (show (9 : Tmp) ≠ 42 by decide), eval_other _ (show (45 : Tmp) ≠ 42 by decide), eval_other _ (show (44 : Tmp) ≠ 42 by decide), eval_same _ _ _ (by (try simp only [put_size]); exact Nat.lt_of_le_of_lt (by decide) h)]
theorem chain_e44 (a0 : Act) (x39 x42 x44 x45 x9 x46 : Value) (h : 46 < a0.tmps.size) : (chain6 a0 x39 x42 x44 x45 x9 x46).eval (.tmp 44) = x44 := by
  unfold chain6
  rw [eval_other _ (show (46 : Tmp) ≠ 44 by decide), eval_other _ (show (9 : Tmp) ≠ 44 by decide), eval_other _ (show (45 : Tmp) ≠ 44 by decide), eval_same _ _ _ (by (try simp only [put_size]); exact Nat.lt_of_le_of_lt (by decide) h)]
theorem chain_e45 (a0 : Act) (x39 x42 x44 x45 x9 x46 : Value) (h : 46 < a0.tmps.size) : (chain6 a0 x39 x42 x44 x45 x9 x46).eval (.tmp 45) = x45 := by
  unfold chain6
  rw [eval_other _ (show (46 : Tmp) ≠ 45 by decide), eval_other _ (show (9 : Tmp) ≠ 45 by decide), eval_same _ _ _ (by (try simp only [put_size]); exact Nat.lt_of_le_of_lt (by decide) h)]
theorem chain_e9 (a0 : Act) (x39 x42 x44 x45 x9 x46 : Value) (h : 46 < a0.tmps.size) : (chain6 a0 x39 x42 x44 x45 x9 x46).eval (.tmp 9) = x9 := by
  unfold chain6
  rw [eval_other _ (show (46 : Tmp) ≠ 9 by decide), eval_same _ _ _ (by (try simp only [put_size]); exact Nat.lt_of_le_of_lt (by decide) h)]
theorem chain_e46 (a0 : Act) (x39 x42 x44 x45 x9 x46 : Value) (h : 46 < a0.tmps.size) : (chain6 a0 x39 x42 x44 x45 x9 x46).eval (.tmp 46) = x46 := by
  unfold chain6
  rw [eval_same _ _ _ (by (try simp only [put_size]); exact Nat.lt_of_le_of_lt (by decide) h)]
theorem chain_e41 (a0 : Act) (x39 x42 x44 x45 x9 x46 : Value) : (chain6 a0 x39 x42 x44 x45 x9 x46).eval (.tmp 41) = a0.eval (.tmp 41) := by
  unfold chain6
  rw [eval_other _ (show (46 : Tmp) ≠ 41 by decide), eval_other _ (show (9 : Tmp) ≠ 41 by decide), eval_other _ (show (45 : Tmp) ≠ 41 by decide), eval_other _ (show (44 : Tmp) ≠ 41 by decide), eval_other _ (show (42 : Tmp) ≠ 41 by decide), eval_other _ (show (39 : Tmp) ≠ 41 by decide)]
theorem chain_39 (a0 : Act) (x39 x42 x44 x45 x9 x46 v : Value) : (chain6 a0 x39 x42 x44 x45 x9 x46).put (some 39) v = chain6 a0 v x42 x44 x45 x9 x46 := by
  unfold chain6
  rw [put_comm _ (show (46 : Tmp) ≠ 39 by decide), put_comm _ (show (9 : Tmp) ≠ 39 by decide), put_comm _ (show (45 : Tmp) ≠ 39 by decide), put_comm _ (show (44 : Tmp) ≠ 39 by decide), put_comm _ (show (42 : Tmp) ≠ 39 by decide), put_same]
theorem chain_42 (a0 : Act) (x39 x42 x44 x45 x9 x46 v : Value) : (chain6 a0 x39 x42 x44 x45 x9 x46).put (some 42) v = chain6 a0 x39 v x44 x45 x9 x46 := by
  unfold chain6
  rw [put_comm _ (show (46 : Tmp) ≠ 42 by decide), put_comm _ (show (9 : Tmp) ≠ 42 by decide), put_comm _ (show (45 : Tmp) ≠ 42 by decide), put_comm _ (show (44 : Tmp) ≠ 42 by decide), put_same]
theorem chain_44 (a0 : Act) (x39 x42 x44 x45 x9 x46 v : Value) : (chain6 a0 x39 x42 x44 x45 x9 x46).put (some 44) v = chain6 a0 x39 x42 v x45 x9 x46 := by
  unfold chain6
  rw [put_comm _ (show (46 : Tmp) ≠ 44 by decide), put_comm _ (show (9 : Tmp) ≠ 44 by decide), put_comm _ (show (45 : Tmp) ≠ 44 by decide), put_same]
theorem chain_45 (a0 : Act) (x39 x42 x44 x45 x9 x46 v : Value) : (chain6 a0 x39 x42 x44 x45 x9 x46).put (some 45) v = chain6 a0 x39 x42 x44 v x9 x46 := by
  unfold chain6
  rw [put_comm _ (show (46 : Tmp) ≠ 45 by decide), put_comm _ (show (9 : Tmp) ≠ 45 by decide), put_same]
theorem chain_9 (a0 : Act) (x39 x42 x44 x45 x9 x46 v : Value) : (chain6 a0 x39 x42 x44 x45 x9 x46).put (some 9) v = chain6 a0 x39 x42 x44 x45 v x46 := by
  unfold chain6
  rw [put_comm _ (show (46 : Tmp) ≠ 9 by decide), put_same]
theorem chain_46 (a0 : Act) (x39 x42 x44 x45 x9 x46 v : Value) : (chain6 a0 x39 x42 x44 x45 x9 x46).put (some 46) v = chain6 a0 x39 x42 x44 x45 x9 v := by
  unfold chain6
  rw [put_same]
theorem ord_4 : ∀ {b7 b9 b10 b11 b12 b13 : Bool}, ord6 false b7 b9 b10 b11 b12 b13 → (b7 = false ∧ b10 = false ∧ b11 = false ∧ b13 = false) ∧ ord6 true false b9 false false b12 false := by
  intro b7 b9 b10 b11 b12 b13
  cases b7 <;> cases b9 <;> cases b10 <;> cases b11 <;> cases b12 <;> cases b13 <;> unfold ord6 <;> decide
theorem ord_7 : ∀ {b9 b10 b11 b12 b13 : Bool}, ord6 true false b9 b10 b11 b12 b13 → (b10 = false ∧ b11 = false ∧ b13 = false) ∧ ord6 true true b9 false false b12 false := by
  intro b9 b10 b11 b12 b13
  cases b9 <;> cases b10 <;> cases b11 <;> cases b12 <;> cases b13 <;> unfold ord6 <;> decide
theorem ord_9 : ∀ {b4 b7 b10 b11 b12 b13 : Bool}, ord6 b4 b7 false b10 b11 b12 b13 → (b10 = false ∧ b11 = false ∧ b13 = false) ∧ ord6 b4 b7 true false false b12 false := by
  intro b4 b7 b10 b11 b12 b13
  cases b4 <;> cases b7 <;> cases b10 <;> cases b11 <;> cases b12 <;> cases b13 <;> unfold ord6 <;> decide
theorem ord_10 : ∀ {b4 b11 b12 b13 : Bool}, ord6 b4 true true false b11 b12 b13 → (b11 = false ∧ b13 = false) ∧ ord6 b4 true true true false b12 false := by
  intro b4 b11 b12 b13
  cases b4 <;> cases b11 <;> cases b12 <;> cases b13 <;> unfold ord6 <;> decide
theorem ord_11 : ∀ {b4 b7 b9 b12 b13 : Bool}, ord6 b4 b7 b9 true false b12 b13 → b13 = false ∧ ord6 b4 b7 b9 true true b12 false := by
  intro b4 b7 b9 b12 b13
  cases b4 <;> cases b7 <;> cases b9 <;> cases b12 <;> cases b13 <;> unfold ord6 <;> decide
theorem ord_12 : ∀ {b4 b7 b9 b10 b11 b13 : Bool}, ord6 b4 b7 b9 b10 b11 false b13 → b13 = false ∧ ord6 b4 b7 b9 b10 b11 true false := by
  intro b4 b7 b9 b10 b11 b13
  cases b4 <;> cases b7 <;> cases b9 <;> cases b10 <;> cases b11 <;> cases b13 <;> unfold ord6 <;> decide
theorem ord_13 : ∀ {b4 b7 b9 b10 : Bool}, ord6 b4 b7 b9 b10 true true false → (b7 = true ∧ b10 = true) ∧ ord6 b4 true b9 true true true true := by
  intro b4 b7 b9 b10
  cases b4 <;> cases b7 <;> cases b9 <;> cases b10 <;> unfold ord6 <;> decide
theorem cons_all {L : List Nat} {P : Nat → Prop} {j : Nat} (h : ∀ k, L.contains k = true → P k) (h0 : P j) : ∀ k, (j :: L).contains k = true → P k := fun k hk => by
  rcases (by simpa using hk : k = j ∨ k ∈ L) with rfl | h1
  · exact h0
  · exact h k (by simpa using h1)
theorem slice_t1 (W : World) (A : Option Addr) (m c : Nat) (hk : 1 ≤ m) : (Instr.sliceAt 22 (.slice A m c) (some (.int .i64 1)) none none).run Tryd.prog W = .ok (.slice (if c = 1 then A else A.map (·.add (1 * 32))) (m - 1) (c - 1)) W := by
  have hu : Tryd.prog.underlying 22 = some (.slice (Tryd.prog.elem 22)) := by kernel_rfl
  rw [run_sliceAt_slice W 22 _ _ _ _ hu, run_slice_l W 22 A m c hu .i64 1 (by omega) (by omega)]
  have z : (sizeOf (Tryd.prog.elem 22)).run Tryd.prog W = .ok 32 W := by rfl
  rw [z]
  simp [sliced, Result.andThen]
theorem built_b3 (n i : Int) (A : Option Addr) (m c : Nat) : Tryd.prog.built 41 [(0, .int .i64 n), (1, .int .i64 i), (2, .slice A m c)] = some #[.int .i64 n, .int .i64 i, .slice A m c] := by kernel_rfl
theorem rest6 : ∀ q, q < 14 → ¬ [0, 1, 2, 3, 5, 6, 8].contains q = true → q = 4 ∨ q = 7 ∨ q = 9 ∨ q = 10 ∨ q = 11 ∨ q = 12 ∨ q = 13 := by decide
set_option maxHeartbeats 8000000 in
theorem levels9_calls (A : Option Addr) (n c : Nat) (xs : List (List Int)) (i : Int) (h : List Int) (w : World) (hn : n = xs.length) (hr : Kd.C kH w A n xs) (hc : n ≤ c) (hH : Hs xs) (hh : h.length = 32 ∧ ∀ x ∈ h, 0 ≤ x ∧ x < 256) (hK : KT w) :
    Calls Tryd.prog 12 #[.slice A n c, .int .i64 i, .agg (nums .u8 h).toArray] w fun e w' => e = .returned (.bool true) ∧ Below w.heap.size w w' := by
  have hm := Kd.C_max hr
  have HAW := Lib.hid (fun (u : World) (hu : Below w.heap.size w u) => awake9_calls u (hK.below hu (Nat.le_refl _)))
  have hhl : (nums .u8 h).length = 32 := by rw [nums_len]; exact hh.1
  have hH1 := nums_one .u8 h
  have HB0 := Lib.hid (below_alloc (Below.refl w.heap.size w) (.cells (nums .u8 h).toArray 25))
  have hbox := heap_alloc_new w (.cells (nums .u8 h).toArray 25)
  obtain h1 | h1 | h1 | hl : 20 < n ∨ (¬ 20 < n ∧ i < 0) ∨ (¬ 20 < n ∧ ¬ i < 0 ∧ (n : Int) ≤ i) ∨ ¬ (20 < n ∨ i < 0 ∨ (n : Int) ≤ i) := by omega
  · obtain ⟨X, hX⟩ : ∃ X, (nums .u8 h).toArray = X := ⟨_, rfl⟩
    rw [hX] at HB0 ⊢
    clear hn hr hH hK hh hhl hH1 hbox hX
    have f0 : (20 : Int) < (n : Int) := by omega
    go_enter Tryd.func12, Tryd.ntmps12
    go_wp2_with fail
    refine (HAW.out _ HB0.out).mono ?_
    rintro e w1 ⟨rfl, hb⟩
    go_wp2_with fail
    go_ret
    exact ⟨rfl, HB0.out.trans (Below.mono hb HB0.out.size)⟩
  · obtain ⟨X, hX⟩ : ∃ X, (nums .u8 h).toArray = X := ⟨_, rfl⟩
    rw [hX] at HB0 ⊢
    clear hn hr hH hK hh hhl hH1 hbox hX
    have f0 : ¬ (20 : Int) < (n : Int) := by omega
    have f1 := h1.2
    go_enter Tryd.func12, Tryd.ntmps12
    go_wp2_with fail
    refine (HAW.out _ HB0.out).mono ?_
    rintro e w1 ⟨rfl, hb⟩
    go_wp2_with fail
    go_ret
    exact ⟨rfl, HB0.out.trans (Below.mono hb HB0.out.size)⟩
  · obtain ⟨X, hX⟩ : ∃ X, (nums .u8 h).toArray = X := ⟨_, rfl⟩
    rw [hX] at HB0 ⊢
    clear hn hr hH hK hh hhl hH1 hbox hX
    have f0 : ¬ (20 : Int) < (n : Int) := by omega
    have f1 := h1.2.1
    have f2 := h1.2.2
    go_enter Tryd.func12, Tryd.ntmps12
    go_wp2_with fail
    refine (HAW.out _ HB0.out).mono ?_
    rintro e w1 ⟨rfl, hb⟩
    go_wp2_with fail
    go_ret
    exact ⟨rfl, HB0.out.trans (Below.mono hb HB0.out.size)⟩
  · obtain ⟨i, rfl⟩ : ∃ k : Nat, i = (k : Int) := ⟨i.toNat, by omega⟩
    have hi : i < n := by omega
    obtain ⟨b, o, rfl, hbl, hrg⟩ := C_hash (w := w) (A := A) (xs := xs) (by rw [← hn]; exact hr) (by omega)
    obtain ⟨hp, hp32⟩ := hrg i (by omega)
    have hpb := hH.any i
    obtain ⟨d, hd⟩ := depth_ex n
    have hd16 : d ≤ 16 := depth_le hd (m := 16) (by have h16 : (2 : Nat) ^ 16 = 65536 := by decide
                                                    omega)
    obtain ⟨ys, hys⟩ : ∃ ys, pathF d xs i = ys := ⟨_, rfl⟩
    have hyl : ys.length = d := by rw [← hys]; exact pathF_len _ _ _
    have hyH : Hs ys := by rw [← hys]; exact pathF_Hs d xs i hH
    obtain ⟨p, hpe⟩ : ∃ p, rdH xs i = p := ⟨_, rfl⟩
    rw [hpe] at hp hp32 hpb
    obtain ⟨P, hP⟩ : ∃ P, nums .u8 p = P := ⟨_, rfl⟩
    rw [hP] at hp
    have hPl : P.length = 32 := by rw [← hP, nums_len]; exact hp32
    have hzH : Hs (ys ++ [h]) := by
      intro q hq
      rcases List.mem_append.1 hq with hq | hq
      · exact hyH q hq
      · obtain rfl : q = h := by simpa using hq
        exact hh
    have hzl : (ys ++ [h]).length = d + 1 := by rw [List.length_append, hyl]; rfl
    have hbr : brightP (n : Int) (i : Int) (d + 1) = 3 := by rw [bright_of hd hi (by omega), if_neg (by omega)]
    have HMK := Lib.hid (fun (u : World) (hu : Below w.heap.size w u) => (show Calls Tryd.prog 30 #[.slice (some ⟨b, o, none⟩) n c, .int .i64 (i : Int)] u fun e w' => ∃ A3 c3, e = .returned (.tuple #[.agg #[.int .i64 (n : Int), .int .i64 (i : Int), .slice A3 d c3], .int .i64 0]) ∧ d ≤ c3 ∧ Kd.C kH w' A3 d ys ∧ Below u.heap.size u w' from by
      have h := make_calls (some ⟨b, o, none⟩) n c xs i d u hn (Kd.C_below hr hu) hc (by omega) hH hi hd (hK.below hu (Nat.le_refl _))
      rw [hys] at h
      exact h))
    have HBR := Lib.hid (fun (A3 : Option Addr) (c3 : Nat) (u : World) => (show Calls Tryd.prog 37 #[.agg #[.int .i64 (n : Int), .int .i64 (i : Int), .slice A3 (d + 1) c3]] u fun e w' => e = .returned (.int .i64 3) ∧ Below u.heap.size u w' from by
      have h := bright_calls (n : Int) (i : Int) A3 (d + 1) c3 u (by omega) (by omega) (by omega)
      rw [hbr] at h
      exact h))
    have HCK := Lib.hid (fun (A3 : Option Addr) (c3 : Nat) (u : World) (hr3 : Kd.C kH u A3 (d + 1) (ys ++ [h])) (hc3 : d + 1 ≤ c3) (hu : Below w.heap.size w u) => (show Calls Tryd.prog 33 #[.agg #[.int .i64 (n : Int), .int .i64 (i : Int), .slice A3 (d + 1) c3], .agg (nums .u8 h).toArray, .agg P.toArray] u fun e w' => e = .returned (.int .i64 3) ∧ Below u.heap.size u w' from by
      have h9 := check_calls (n : Int) (i : Int) A3 (d + 1) c3 (ys ++ [h]) h p u hzl.symm hr3 hc3 hzH hh.1 hp32 hpb.2 (hK.below hu (Nat.le_refl _)) (by omega) (by omega)
      rw [checkP_len hd hi (by omega) (by omega), hP] at h9
      exact h9))
    have HUP := Lib.hid (fun (A3 : Option Addr) (c3 : Nat) (u : World) (h0 : 0 < d) (hr3 : Kd.C kH u A3 (d - 1) (ys.drop 1)) (hc3 : d - 1 ≤ c3) (hu : Below w.heap.size w u) => (show Calls Tryd.prog 34 #[.agg #[.int .i64 (n : Int), .int .i64 (i : Int), .slice A3 (d - 1) c3], .agg P.toArray] u fun e w' => e = .returned (.tuple #[.agg (nums .u8 z32h).toArray, .int .i64 3]) ∧ Below u.heap.size u w' from by
      have h9 := up_calls (n : Int) (i : Int) A3 (d - 1) c3 (ys.drop 1) p u (by rw [List.length_drop, hyl]) hr3 hc3 (fun q hq => hyH q (List.mem_of_mem_drop hq)) hp32 hpb.2 (hK.below hu (Nat.le_refl _)) (by omega) (by omega)
      rw [upP_len hd hi (by omega) (by rw [List.length_drop, hyl]; omega), hP] at h9
      exact h9))
    have hzb := (zero_of_info infoB9).1
    have HI9 := Lib.hid (And.intro Tryd.underlying41 (zero_of_info infoB9).2)
    obtain ⟨HC, hHC⟩ : ∃ X, nums .u8 h = X := ⟨_, rfl⟩
    have HW7 := Lib.hid (And.intro hyl (And.intro hyH (And.intro hzl hHC)))
    rw [hHC] at hhl hH1 HB0 hbox HCK
    rw [show (nums .u8 h).toArray = HC.toArray from by rw [hHC]]
    have HRG := Lib.hid (fun (u : World) (hu : Below w.heap.size w u) => range_below hu hbl hp)
    have HBX := Lib.hid hbox
    have hu := Tryd.underlying25
    have hi1 : (Tryd.prog.info? 25).map (·.size) = some P.length := by rw [hPl]; exact (zero_of_info infoHash).2
    have hi2 : (Tryd.prog.info? 25).map (·.size) = some HC.length := by rw [hhl]; exact (zero_of_info infoHash).2
    have hbs := fun u => run_hash1 h hh.1 u
    rw [hHC] at hbs
    have HH1 := Lib.hid hh.1
    have hb0 := fun u => run_build0 u
    have HDL := Lib.hid hd16
    have g0 : ¬ (20 : Int) < (n : Int) := by omega
    have g1 : ¬ (i : Int) < 0 := by omega
    have g2 : ¬ (n : Int) ≤ (i : Int) := by omega
    have g3 : (0 : Int) ≤ (i : Int) := by omega
    have g4 : (i : Int) < (n : Int) := by omega
    clear hn hr hH hK hh hpe hP hPl hp hpb hp32 hrg hbl hd hyl hyH hzH hzl hys hbr hbox hHC hd16
    go_enter Tryd.func12, Tryd.ntmps12
    go_wp2_with fail
    refine (HMK.out _ HB0.out).mono ?_
    rintro e w1 ⟨A1, c1, rfl, hc1, hC1, hb1⟩
    have hk2 := heap_alloc_new w1 (.cells #[.int .i64 (n : Int), .int .i64 (i : Int), .slice A1 d c1] 41)
    have hb2 := below_alloc (Below.refl w1.heap.size w1) (.cells #[.int .i64 (n : Int), .int .i64 (i : Int), .slice A1 d c1] 41)
    have hx1 := (hb1.block _ (blk_lt HBX.out)).trans HBX.out
    obtain ⟨W2, hW2⟩ : ∃ W, w1.alloc (.cells #[.int .i64 (n : Int), .int .i64 (i : Int), .slice A1 d c1] 41) = W := ⟨_, rfl⟩
    rw [hW2] at hk2 hb2
    have hs2 := hb2.size
    have HB2 := Lib.hid ((HB0.out.trans (Below.mono hb1 HB0.out.size)).trans (Below.mono hb2 (HB0.out.trans (Below.mono hb1 HB0.out.size)).size))
    have HSS := Lib.hid (show ∀ u : World, Below W2.heap.size W2 u → ((loadVar 3 ⟨w1.heap.size, 0, none⟩).run Tryd.prog u = .ok (.int .i64 (n : Int)) u ∧ (loadVar 3 ⟨w1.heap.size, 1, none⟩).run Tryd.prog u = .ok (.int .i64 (i : Int)) u ∧ (loadVar 22 ⟨w1.heap.size, 2, none⟩).run Tryd.prog u = .ok (.slice A1 d c1) u) ∧ u.rangeAt w.heap.size 0 HC ∧ u.rangeAt b (o + i * 32) P from fun u h => by
      have h9 := (h.block _ (blk_lt hk2)).trans hk2
      have hB := hb2.trans (Below.mono h hs2)
      have h8 := (hB.block _ (blk_lt hx1)).trans hx1
      exact ⟨⟨run_load_i64 _ _ _ ((blk_cell h9 0).trans rfl), run_load_i64 _ _ _ ((blk_cell h9 1).trans rfl), run_load_hs _ _ _ ((blk_cell h9 2).trans rfl)⟩, fun j v hj => by
        rw [Nat.zero_add, blk_cell h8, List.getElem?_toArray]
        exact hj, HRG.out u (HB2.out.trans (Below.mono h HB2.out.size))⟩)
    have HCY := Lib.hid (show ∀ u : World, Below W2.heap.size W2 u → Kd.C kH u A1 d ys ∧ Below w.heap.size w u from fun u h => ⟨Kd.C_below hC1 (hb2.trans (Below.mono h hs2)), HB2.out.trans (Below.mono h HB2.out.size)⟩)
    have HC1 := Lib.hid hc1
    have HW2 := Lib.hid hW2
    clear hk2 hb2 hs2 hW2 hC1 hc1 hb1 hx1 HMK HRG
    go_wp2_with ((with_reducible show wpList _ _ _ (Oper.mk _ (Op.store _ (.tmp 7) _) _ _ _ _ :: _) _ _); (go_loud (refine wpl_store_new rfl 41 (.tmp 7) (.tmp 31) rfl #[.int .i64 0, .int .i64 0, .slice none 0 0] #[.int .i64 (n : Int), .int .i64 (i : Int), .slice A1 d c1] rfl rfl HI9.out.2 rfl (by simp [Value.oneCell']) ?_)))
    rw [HW2.out]
    have HBD := Lib.hid (below_drew (Below.refl W2.heap.size W2))
    have hHeld := HSS.out _ HBD.out
    refine wp_region_held (S := fun u => ((loadVar 3 ⟨w1.heap.size, 0, none⟩).run Tryd.prog u = .ok (.int .i64 (n : Int)) u ∧ (loadVar 3 ⟨w1.heap.size, 1, none⟩).run Tryd.prog u = .ok (.int .i64 (i : Int)) u ∧ (loadVar 22 ⟨w1.heap.size, 2, none⟩).run Tryd.prog u = .ok (.slice A1 d c1) u) ∧ u.rangeAt w.heap.size 0 HC ∧ u.rangeAt b (o + i * 32) P) (by kernel_rfl) ?_
    change wpAnyH _ _ _ _ _ _ _ _ (World.drew _)
    refine wpAnyH_take (i := 0) (oi := ({ dst := some 35, op := Op.fieldAddr 41 (Operand.tmp 7) 0, type := 0, pos := "law.go:126", after := #[], guard := none } : Oper)) (v := .pointer (some ⟨w1.heap.size, 0, none⟩)) rfl (by kernel_rfl) (by kernel_rfl) (by kernel_rfl) (fun _ _ _ h => h) (Or.inl ⟨by rfl, fun w hSw => by go_simp⟩) hHeld ?_
    simp only [Act.put, List.setIfInBounds_toArray, List.set_cons_zero, List.set_cons_succ]
    refine wpAnyH_take (i := 1) (oi := ({ dst := some 36, op := Op.load 3 (Operand.tmp 35), type := 3, pos := "law.go:126", after := #[{ on := 0, ground := Ground.data }], guard := none } : Oper)) (v := .int .i64 (n : Int)) rfl (by kernel_rfl) (by kernel_rfl) (by kernel_rfl) (fun _ _ _ h => h) (Or.inl ⟨by rfl, fun w hSw => by obtain ⟨⟨z0, z1, z2⟩, z3⟩ := hSw; go_simp⟩) hHeld ?_
    simp only [Act.put, List.setIfInBounds_toArray, List.set_cons_zero, List.set_cons_succ]
    refine wpAnyH_take (i := 2) (oi := ({ dst := some 37, op := Op.fieldAddr 41 (Operand.tmp 7) 1, type := 0, pos := "law.go:126", after := #[], guard := none } : Oper)) (v := .pointer (some ⟨w1.heap.size, 1, none⟩)) rfl (by kernel_rfl) (by kernel_rfl) (by kernel_rfl) (fun _ _ _ h => h) (Or.inl ⟨by rfl, fun w hSw => by go_simp⟩) hHeld ?_
    simp only [Act.put, List.setIfInBounds_toArray, List.set_cons_zero, List.set_cons_succ]
    refine wpAnyH_take (i := 3) (oi := ({ dst := some 38, op := Op.load 3 (Operand.tmp 37), type := 3, pos := "law.go:126", after := #[{ on := 2, ground := Ground.data }], guard := none } : Oper)) (v := .int .i64 (i : Int)) rfl (by kernel_rfl) (by kernel_rfl) (by kernel_rfl) (fun _ _ _ h => h) (Or.inl ⟨by rfl, fun w hSw => by obtain ⟨⟨z0, z1, z2⟩, z3⟩ := hSw; go_simp⟩) hHeld ?_
    simp only [Act.put, List.setIfInBounds_toArray, List.set_cons_zero, List.set_cons_succ]
    refine wpAnyH_take (i := 5) (oi := ({ dst := some 40, op := Op.fieldAddr 41 (Operand.tmp 7) 2, type := 0, pos := "law.go:126", after := #[], guard := none } : Oper)) (v := .pointer (some ⟨w1.heap.size, 2, none⟩)) rfl (by kernel_rfl) (by kernel_rfl) (by kernel_rfl) (fun _ _ _ h => h) (Or.inl ⟨by rfl, fun w hSw => by go_simp⟩) hHeld ?_
    simp only [Act.put, List.setIfInBounds_toArray, List.set_cons_zero, List.set_cons_succ]
    refine wpAnyH_take (i := 6) (oi := ({ dst := some 41, op := Op.load 22 (Operand.tmp 40), type := 22, pos := "law.go:126", after := #[{ on := 5, ground := Ground.data }], guard := none } : Oper)) (v := .slice A1 d c1) rfl (by kernel_rfl) (by kernel_rfl) (by kernel_rfl) (fun _ _ _ h => h) (Or.inl ⟨by rfl, fun w hSw => by obtain ⟨⟨z0, z1, z2⟩, z3⟩ := hSw; go_simp⟩) hHeld ?_
    simp only [Act.put, List.setIfInBounds_toArray, List.set_cons_zero, List.set_cons_succ]
    refine wpAnyH_take (i := 8) (oi := ({ dst := some 43, op := Op.load 25 (Operand.tmp 5), type := 25, pos := "law.go:126", after := #[], guard := none } : Oper)) (v := .agg HC.toArray) rfl (by kernel_rfl) (by kernel_rfl) (by kernel_rfl) (fun _ _ _ h => h) (yieldsIf_load_mid (by rfl) _ _ rfl w.heap.size 0 rfl HC _ (fun _ h => h.2.1) hu rfl hi2) hHeld ?_
    simp only [Act.put, List.setIfInBounds_toArray, List.set_cons_zero, List.set_cons_succ]
    clear hHeld
    refine wpAnyH_act ?_
    intro a0 ha0
    have hsz0 : 46 < a0.tmps.size := by rw [ha0]; exact (by decide : (46 : Nat) < 87)
    have h41 : a0.eval (.tmp 41) = .slice A1 d c1 := by rw [ha0]; rfl
    refine wpAnyH_inv (fun listed a W => listed.size = 14 ∧ (∀ k, [0, 1, 2, 3, 5, 6, 8].contains k = true → listed.getD k false = true) ∧ ord6 (listed.getD 4 false) (listed.getD 7 false) (listed.getD 9 false) (listed.getD 10 false) (listed.getD 11 false) (listed.getD 12 false) (listed.getD 13 false) ∧ ∃ x39 x42 x44 x45 x9 x46, a = chain6 a0 x39 x42 x44 x45 x9 x46 ∧ (listed.getD 11 false = true → x46 = .agg #[.int .i64 (n : Int), .int .i64 (i : Int), x45]) ∧ TL W2 ys h (fun v => #[.int .i64 (n : Int), .int .i64 (i : Int), v]) (listed.getD 4 false) (listed.getD 7 false) (listed.getD 9 false) (listed.getD 10 false) (listed.getD 12 false) (listed.getD 13 false) x39 x42 x44 x45 x9 W) ?hS ?hend ?hstep _ _ _ _ (by decide) ?h0
    case hS =>
      rintro listed a W ⟨_, _, _, x39, x42, x44, x45, x9, x46, _, _, hT⟩
      exact HSS.out _ hT.below
    case h0 =>
      refine ⟨rfl, (fun k hk => by
        rcases (by simpa using hk : k = 0 ∨ k = 1 ∨ k = 2 ∨ k = 3 ∨ k = 5 ∨ k = 6 ∨ k = 8) with rfl | rfl | rfl | rfl | rfl | rfl | rfl <;> rfl), (show ord6 false false false false false false false by unfold ord6; decide), undef, undef, undef, undef, undef, undef, by rw [ha0]; rfl, (fun e => by cases e), HBD.out, ?_, ?_, ?_, ?_, ?_⟩ <;> intro e <;> cases e
    case hend =>
      rintro listed a W ⟨hsz, hlo, hO, x39, x42, x44, x45, x9, x46, rfl, h46, hT⟩ hr9
      have l4 := ready_of (j := 4) (o := ({ dst := some 39, op := Op.buildSlice 22 0 #[], type := 22, pos := "law.go:126", after := #[], guard := none } : Oper)) hr9 rfl (by rw [hsz]; decide) [] (by simp) (by kernel_rfl)
      have l12 := ready_of (j := 12) (o := ({ dst := some 9, op := Op.alloc 41, type := 0, pos := "law.go:126", after := #[], guard := none } : Oper)) hr9 rfl (by rw [hsz]; decide) [] (by simp) (by kernel_rfl)
      have l9 := ready_of (j := 9) (o := ({ dst := some 44, op := Op.buildSlice 22 1 #[(0, Operand.tmp 43)], type := 22, pos := "law.go:126", after := #[{ on := 8, ground := Ground.data }], guard := none } : Oper)) hr9 rfl (by rw [hsz]; decide) _ hlo (by kernel_rfl)
      have a4 := cons_all hlo l4
      have l7 := ready_of (j := 7) (o := ({ dst := some 42, op := Op.call { callee := Callee.builtin Builtin.append, args := #[Operand.tmp 39, Operand.tmp 41], argTypes := #[22, 22] }, type := 22, pos := "law.go:126", after := #[{ on := 4, ground := Ground.data }, { on := 6, ground := Ground.data }], guard := none } : Oper)) hr9 rfl (by rw [hsz]; decide) _ a4 (by kernel_rfl)
      have a7 := cons_all (cons_all a4 l7) l9
      have l10 := ready_of (j := 10) (o := ({ dst := some 45, op := Op.call { callee := Callee.builtin Builtin.append, args := #[Operand.tmp 42, Operand.tmp 44], argTypes := #[22, 22] }, type := 22, pos := "law.go:126", after := #[{ on := 7, ground := Ground.data }, { on := 9, ground := Ground.data }, { on := 7, ground := Ground.chain }], guard := none } : Oper)) hr9 rfl (by rw [hsz]; decide) _ a7 (by kernel_rfl)
      have a10 := cons_all a7 l10
      have l11 := ready_of (j := 11) (o := ({ dst := some 46, op := Op.build 41 #[(0, Operand.tmp 36), (1, Operand.tmp 38), (2, Operand.tmp 45)], type := 41, pos := "law.go:126", after := #[{ on := 1, ground := Ground.data }, { on := 3, ground := Ground.data }, { on := 10, ground := Ground.data }], guard := none } : Oper)) hr9 rfl (by rw [hsz]; decide) _ a10 (by kernel_rfl)
      have a11 := cons_all (cons_all a10 l11) l12
      have l13 := ready_of (j := 13) (o := ({ dst := none, op := Op.store 41 (Operand.tmp 9) (Operand.tmp 46), type := 0, pos := "law.go:126", after := #[{ on := 12, ground := Ground.data }, { on := 11, ground := Ground.data }, { on := 10, ground := Ground.chain }, { on := 0, ground := Ground.phase }, { on := 1, ground := Ground.phase }, { on := 2, ground := Ground.phase }, { on := 3, ground := Ground.phase }, { on := 4, ground := Ground.phase }, { on := 5, ground := Ground.phase }, { on := 6, ground := Ground.phase }, { on := 7, ground := Ground.phase }, { on := 8, ground := Ground.phase }, { on := 9, ground := Ground.phase }, { on := 10, ground := Ground.phase }, { on := 11, ground := Ground.phase }, { on := 12, ground := Ground.phase }], guard := none } : Oper)) hr9 rfl (by rw [hsz]; decide) _ a11 (by kernel_rfl)
      rw [l4, l7, l9, l10, l12, l13] at hT
      obtain ⟨g9, cs9, rfl, hg9, hk9, _, e9⟩ := hT.r9 rfl
      obtain rfl := e9 rfl
      obtain rfl := h46 l11
      obtain ⟨A5, c5, rfl, hc5, hC5⟩ := Kd.R_reads (hT.r45 rfl)
      have hBW := hT.below
      rw [HW7.out.2.2.1] at hc5 hC5 hk9
      rw [HW7.out.2.2.1]
      have HBW := Lib.hid hBW
      have HS7 := Lib.hid (show ∀ u : World, Below W.heap.size W u → (loadVar 41 ⟨g9, 0, none⟩).run Tryd.prog u = .ok (.agg #[.int .i64 (n : Int), .int .i64 (i : Int), .slice A5 (d + 1) c5]) u ∧ u.rangeAt w.heap.size 0 HC ∧ u.rangeAt b (o + i * 32) P from fun u h =>
        ⟨run_loadVar_row (P := Tryd.prog) u g9 41 41 _ (0, 0) _ ((h.block _ (blk_lt hk9)).trans hk9) HI9.out.1 rfl HI9.out.2, (HSS.out u (hBW.trans (Below.mono h hBW.size))).2⟩)
      have HC7 := Lib.hid (show ∀ u : World, Below W.heap.size W u → Kd.C kH u A5 (d + 1) (ys ++ [h]) ∧ Below W2.heap.size W2 u from fun u h => ⟨Kd.C_below hC5 h, hBW.trans (Below.mono h hBW.size)⟩)
      have HC5 := Lib.hid hc5
      clear hT hO h46 hsz hlo hr9 l4 l12 l9 a4 l7 a7 l10 a10 l11 a11 l13 hg9 hk9 hc5 hC5 hBW e9
      subst ha0
      simp only [chain6, Act.put, List.setIfInBounds_toArray, List.set_cons_zero, List.set_cons_succ]
      clear hb0 hbs
      go_wp2_with fail
      have HBD7 := Lib.hid (below_drew (Below.refl W.heap.size W))
      have HTR7 := Lib.hid (show ∀ u u' : World, Below W.heap.size W u → Below u.heap.size u u' → Below W.heap.size W u' from fun u u' hu hu' => hu.trans (Below.mono hu' hu.size))
      have hHeld := HS7.out _ HBD7.out
      refine wp_region_held (S := fun u => (loadVar 41 ⟨g9, 0, none⟩).run Tryd.prog u = .ok (.agg #[.int .i64 (n : Int), .int .i64 (i : Int), .slice A5 (d + 1) c5]) u ∧ u.rangeAt w.heap.size 0 HC ∧ u.rangeAt b (o + i * 32) P) (by kernel_rfl) ?_
      change wpAnyH _ _ _ _ _ _ _ _ (World.drew _)
      refine wpAnyH_take (i := 0) (oi := ({ dst := some 47, op := Op.load 41 (Operand.tmp 9), type := 41, pos := "law.go:127", after := #[], guard := none } : Oper)) (v := .agg #[.int .i64 (n : Int), .int .i64 (i : Int), .slice A5 (d + 1) c5]) rfl (by kernel_rfl) (by kernel_rfl) (by kernel_rfl) (fun _ _ _ h => h) (Or.inl ⟨by rfl, fun w hSw => by obtain ⟨z0, z1⟩ := hSw; go_simp⟩) hHeld ?_
      simp only [Act.put, List.setIfInBounds_toArray, List.set_cons_zero, List.set_cons_succ]
      refine wpAnyH_ready (rs := [1]) (by kernel_rfl) (by simp) ?_
      refine AllReadyH.cons (o := ({ dst := some 48, op := Op.call { callee := Callee.value (Operand.func 37), args := #[Operand.tmp 47], argTypes := #[41] }, type := 42, pos := "law.go:127", after := #[{ on := 0, ground := Ground.data }], guard := none } : Oper)) rfl (fun K hK => ?_) AllReadyH.nil
      go_simp
      (with_reducible refine (HBR.out A5 c5 _).mono ?_)
      rintro e w3 ⟨rfl, hb3⟩
      have HB3 := Lib.hid (HTR7.out _ _ HBD7.out hb3)
      clear hb3
      go_wp2_with fail
      refine hK.out _ _ (HS7.out _ HB3.out) (fun hHeld => ?_)
      clear hK K
      try simp only [Act.put, List.setIfInBounds_toArray, List.set_cons_zero, List.set_cons_succ]
      refine wpAnyH_take (i := 2) (oi := ({ dst := some 49, op := Op.binOp BinOp.neq 42 (Operand.tmp 48) (Operand.const (Value.int IntKind.i64 3)) 42, type := 4, pos := "law.go:127", after := #[{ on := 1, ground := Ground.data }], guard := none } : Oper)) (v := .bool false) rfl (by kernel_rfl) (by kernel_rfl) (by kernel_rfl) (fun _ _ _ h => h) (Or.inl ⟨by rfl, fun w hSw => by go_simp⟩) hHeld ?_
      simp only [Act.put, List.setIfInBounds_toArray, List.set_cons_zero, List.set_cons_succ]
      refine wpAnyH_take (i := 3) (oi := ({ dst := some 50, op := Op.move (Operand.tmp 49), type := 4, pos := "law.go:127", after := #[{ on := 2, ground := Ground.data }, { on := 1, ground := Ground.chain }], guard := none } : Oper)) (v := .bool false) rfl (by kernel_rfl) (by kernel_rfl) (by kernel_rfl) (fun _ _ _ h => h) (Or.inl ⟨by rfl, fun w hSw => by go_simp⟩) hHeld ?_
      simp only [Act.put, List.setIfInBounds_toArray, List.set_cons_zero, List.set_cons_succ]
      refine wpAnyH_take (i := 4) (oi := ({ dst := some 51, op := Op.load 41 (Operand.tmp 9), type := 41, pos := "law.go:127", after := #[{ on := 3, ground := Ground.guard }], guard := some (3, false) } : Oper)) (v := .agg #[.int .i64 (n : Int), .int .i64 (i : Int), .slice A5 (d + 1) c5]) rfl (by kernel_rfl) (by kernel_rfl) (by kernel_rfl) (fun _ _ _ h => h) (Or.inl ⟨by rfl, fun w hSw => by obtain ⟨z0, z1⟩ := hSw; go_simp⟩) hHeld ?_
      simp only [Act.put, List.setIfInBounds_toArray, List.set_cons_zero, List.set_cons_succ]
      refine wpAnyH_take (i := 5) (oi := ({ dst := some 52, op := Op.load 25 (Operand.tmp 5), type := 25, pos := "law.go:127", after := #[{ on := 3, ground := Ground.guard }], guard := some (3, false) } : Oper)) (v := .agg HC.toArray) rfl (by kernel_rfl) (by kernel_rfl) (by kernel_rfl) (fun _ _ _ h => h) (yieldsIf_load_mid (by rfl) _ _ rfl w.heap.size 0 rfl HC _ (fun _ h => h.2.1) hu rfl hi2) hHeld ?_
      simp only [Act.put, List.setIfInBounds_toArray, List.set_cons_zero, List.set_cons_succ]
      refine wpAnyH_take (i := 6) (oi := ({ dst := some 53, op := Op.move (Operand.tmp 0), type := 22, pos := "law.go:127", after := #[{ on := 3, ground := Ground.guard }], guard := some (3, false) } : Oper)) (v := .slice (some ⟨b, o, none⟩) n c) rfl (by kernel_rfl) (by kernel_rfl) (by kernel_rfl) (fun _ _ _ h => h) (Or.inl ⟨by rfl, fun w hSw => by go_simp⟩) hHeld ?_
      simp only [Act.put, List.setIfInBounds_toArray, List.set_cons_zero, List.set_cons_succ]
      refine wpAnyH_take (i := 7) (oi := ({ dst := some 54, op := Op.move (Operand.tmp 1), type := 3, pos := "law.go:127", after := #[{ on := 3, ground := Ground.guard }], guard := some (3, false) } : Oper)) (v := .int .i64 (i : Int)) rfl (by kernel_rfl) (by kernel_rfl) (by kernel_rfl) (fun _ _ _ h => h) (Or.inl ⟨by rfl, fun w hSw => by go_simp⟩) hHeld ?_
      simp only [Act.put, List.setIfInBounds_toArray, List.set_cons_zero, List.set_cons_succ]
      refine wpAnyH_take (i := 8) (oi := ({ dst := some 55, op := Op.indexAddr 22 (Operand.tmp 53) (Operand.tmp 54), type := 0, pos := "law.go:127", after := #[{ on := 6, ground := Ground.data }, { on := 7, ground := Ground.data }, { on := 3, ground := Ground.guard }], guard := some (3, false) } : Oper)) (v := .pointer (some ⟨b, o + i * 32, none⟩)) rfl (by kernel_rfl) (by kernel_rfl) (by kernel_rfl) (fun _ _ _ h => h) (Or.inl ⟨by rfl, fun w hSw => by go_simp⟩) hHeld ?_
      simp only [Act.put, List.setIfInBounds_toArray, List.set_cons_zero, List.set_cons_succ]
      refine wpAnyH_take (i := 9) (oi := ({ dst := some 56, op := Op.load 25 (Operand.tmp 55), type := 25, pos := "law.go:127", after := #[{ on := 8, ground := Ground.data }, { on := 3, ground := Ground.guard }], guard := some (3, false) } : Oper)) (v := .agg P.toArray) rfl (by kernel_rfl) (by kernel_rfl) (by kernel_rfl) (fun _ _ _ h => h) (yieldsIf_load_mid (by rfl) _ _ rfl b (o + i * 32) rfl P _ (fun _ h => h.2.2) hu rfl hi1) hHeld ?_
      simp only [Act.put, List.setIfInBounds_toArray, List.set_cons_zero, List.set_cons_succ]
      refine wpAnyH_ready (rs := [10]) (by kernel_rfl) (by simp) ?_
      refine AllReadyH.cons (o := ({ dst := some 57, op := Op.call { callee := Callee.value (Operand.func 33), args := #[Operand.tmp 51, Operand.tmp 52, Operand.tmp 56], argTypes := #[41, 25, 25] }, type := 42, pos := "law.go:127", after := #[{ on := 4, ground := Ground.data }, { on := 5, ground := Ground.data }, { on := 9, ground := Ground.data }, { on := 3, ground := Ground.chain }, { on := 3, ground := Ground.guard }], guard := some (3, false) } : Oper)) rfl (fun K hK => ?_) AllReadyH.nil
      go_simp
      (with_reducible refine (HCK.out A5 c5 _ (HC7.out _ HB3.out).1 HC5.out (HCY.out _ (HC7.out _ HB3.out).2).2).mono ?_)
      rintro e w4 ⟨rfl, hb4⟩
      have HB4 := Lib.hid (HTR7.out _ _ HB3.out hb4)
      clear hb4
      go_wp2_with fail
      refine hK.out _ _ (HS7.out _ HB4.out) (fun hHeld => ?_)
      clear hK K
      try simp only [Act.put, List.setIfInBounds_toArray, List.set_cons_zero, List.set_cons_succ]
      refine wpAnyH_take (i := 11) (oi := ({ dst := some 58, op := Op.binOp BinOp.neq 42 (Operand.tmp 57) (Operand.const (Value.int IntKind.i64 3)) 42, type := 4, pos := "law.go:127", after := #[{ on := 10, ground := Ground.data }, { on := 3, ground := Ground.guard }], guard := some (3, false) } : Oper)) (v := .bool false) rfl (by kernel_rfl) (by kernel_rfl) (by kernel_rfl) (fun _ _ _ h => h) (Or.inl ⟨by rfl, fun w hSw => by go_simp⟩) hHeld ?_
      simp only [Act.put, List.setIfInBounds_toArray, List.set_cons_zero, List.set_cons_succ]
      refine wpAnyH_take (i := 12) (oi := ({ dst := some 59, op := Op.pick (Operand.tmp 50) (Operand.const (Value.bool true)) (Operand.tmp 58), type := 4, pos := "law.go:127", after := #[{ on := 3, ground := Ground.data }, { on := 11, ground := Ground.data }], guard := none } : Oper)) (v := .bool false) rfl (by kernel_rfl) (by kernel_rfl) (by kernel_rfl) (fun _ _ _ h => h) (Or.inl ⟨by rfl, fun w hSw => by go_simp⟩) hHeld ?_
      simp only [Act.put, List.setIfInBounds_toArray, List.set_cons_zero, List.set_cons_succ]
      refine wpAnyH_done (by kernel_rfl) ?_ _
      clear hHeld
      have HB24 := Lib.hid (HC7.out _ HB4.out).2
      have hld := (HSS.out _ HB24.out).1.2.2
      by_cases hd0 : d = 0
      · have f9 : (d : Int) = 0 := by omega
        go_wp2_with fail
        refine (HAW.out _ (HCY.out _ HB24.out).2).mono ?_
        rintro e w5 ⟨rfl, hb5⟩
        go_wp2_with fail
        go_ret
        exact ⟨rfl, (HCY.out _ HB24.out).2.trans (Below.mono hb5 (HCY.out _ HB24.out).2.size)⟩
      · have f9 : ¬ (d : Int) = 0 := by omega
        go_wp2_with fail
        have hs11 := fun u => slice_t1 u A1 d c1 (by omega)
        obtain ⟨A8, hA8⟩ : ∃ A8, (if c1 = 1 then A1 else A1.map (·.add (1 * 32))) = A8 := ⟨_, rfl⟩
        have HC8 := Lib.hid (show ∀ u : World, Below W2.heap.size W2 u → Kd.C kH u A8 (d - 1) (ys.drop 1) from fun u h => by
          have h9 := Kd.C_drop (k := kH) (m := 1) (c := c1) (by rw [HW7.out.1]; exact (HCY.out u h).1) (by rw [HW7.out.1]; omega) (by rw [HW7.out.1]; exact HC1.out)
          rw [kH_sz, hA8, List.length_drop, HW7.out.1] at h9
          exact h9)
        rw [hA8] at hs11
        have hbu := fun u => run_build (P := Tryd.prog) u 41 #[(0, .int .i64 (n : Int)), (1, .int .i64 (i : Int)), (2, .slice A8 (d - 1) (c1 - 1))] _ (built_b3 n i A8 (d - 1) (c1 - 1))
        clear hA8 hld
        have HB11 := Lib.hid (below_drew HB24.out)
        have hHeld := HSS.out _ HB11.out
        refine wp_region_held (S := fun u => ((loadVar 3 ⟨w1.heap.size, 0, none⟩).run Tryd.prog u = .ok (.int .i64 (n : Int)) u ∧ (loadVar 3 ⟨w1.heap.size, 1, none⟩).run Tryd.prog u = .ok (.int .i64 (i : Int)) u ∧ (loadVar 22 ⟨w1.heap.size, 2, none⟩).run Tryd.prog u = .ok (.slice A1 d c1) u) ∧ u.rangeAt w.heap.size 0 HC ∧ u.rangeAt b (o + i * 32) P) (by kernel_rfl) ?_
        change wpAnyH _ _ _ _ _ _ _ _ (World.drew _)
        refine wpAnyH_take (i := 0) (oi := ({ dst := some 65, op := Op.fieldAddr 41 (Operand.tmp 7) 0, type := 0, pos := "law.go:133", after := #[], guard := none } : Oper)) (v := .pointer (some ⟨w1.heap.size, 0, none⟩)) rfl (by kernel_rfl) (by kernel_rfl) (by kernel_rfl) (fun _ _ _ h => h) (Or.inl ⟨by rfl, fun w hSw => by go_simp⟩) hHeld ?_
        simp only [Act.put, List.setIfInBounds_toArray, List.set_cons_zero, List.set_cons_succ]
        refine wpAnyH_take (i := 1) (oi := ({ dst := some 66, op := Op.load 3 (Operand.tmp 65), type := 3, pos := "law.go:133", after := #[{ on := 0, ground := Ground.data }], guard := none } : Oper)) (v := .int .i64 (n : Int)) rfl (by kernel_rfl) (by kernel_rfl) (by kernel_rfl) (fun _ _ _ h => h) (Or.inl ⟨by rfl, fun w hSw => by obtain ⟨⟨z0, z1, z2⟩, z3⟩ := hSw; go_simp⟩) hHeld ?_
        simp only [Act.put, List.setIfInBounds_toArray, List.set_cons_zero, List.set_cons_succ]
        refine wpAnyH_take (i := 2) (oi := ({ dst := some 67, op := Op.fieldAddr 41 (Operand.tmp 7) 1, type := 0, pos := "law.go:133", after := #[], guard := none } : Oper)) (v := .pointer (some ⟨w1.heap.size, 1, none⟩)) rfl (by kernel_rfl) (by kernel_rfl) (by kernel_rfl) (fun _ _ _ h => h) (Or.inl ⟨by rfl, fun w hSw => by go_simp⟩) hHeld ?_
        simp only [Act.put, List.setIfInBounds_toArray, List.set_cons_zero, List.set_cons_succ]
        refine wpAnyH_take (i := 3) (oi := ({ dst := some 68, op := Op.load 3 (Operand.tmp 67), type := 3, pos := "law.go:133", after := #[{ on := 2, ground := Ground.data }], guard := none } : Oper)) (v := .int .i64 (i : Int)) rfl (by kernel_rfl) (by kernel_rfl) (by kernel_rfl) (fun _ _ _ h => h) (Or.inl ⟨by rfl, fun w hSw => by obtain ⟨⟨z0, z1, z2⟩, z3⟩ := hSw; go_simp⟩) hHeld ?_
        simp only [Act.put, List.setIfInBounds_toArray, List.set_cons_zero, List.set_cons_succ]
        refine wpAnyH_take (i := 4) (oi := ({ dst := some 69, op := Op.fieldAddr 41 (Operand.tmp 7) 2, type := 0, pos := "law.go:133", after := #[], guard := none } : Oper)) (v := .pointer (some ⟨w1.heap.size, 2, none⟩)) rfl (by kernel_rfl) (by kernel_rfl) (by kernel_rfl) (fun _ _ _ h => h) (Or.inl ⟨by rfl, fun w hSw => by go_simp⟩) hHeld ?_
        simp only [Act.put, List.setIfInBounds_toArray, List.set_cons_zero, List.set_cons_succ]
        refine wpAnyH_take (i := 5) (oi := ({ dst := some 70, op := Op.load 22 (Operand.tmp 69), type := 22, pos := "law.go:133", after := #[{ on := 4, ground := Ground.data }], guard := none } : Oper)) (v := .slice A1 d c1) rfl (by kernel_rfl) (by kernel_rfl) (by kernel_rfl) (fun _ _ _ h => h) (Or.inl ⟨by rfl, fun w hSw => by obtain ⟨⟨z0, z1, z2⟩, z3⟩ := hSw; go_simp⟩) hHeld ?_
        simp only [Act.put, List.setIfInBounds_toArray, List.set_cons_zero, List.set_cons_succ]
        refine wpAnyH_take (i := 6) (oi := ({ dst := some 71, op := Op.slice 22 (Operand.tmp 70) (some (Operand.const (Value.int IntKind.i64 1))) none none, type := 22, pos := "law.go:133", after := #[{ on := 5, ground := Ground.data }], guard := none } : Oper)) (v := .slice A8 (d - 1) (c1 - 1)) rfl (by kernel_rfl) (by kernel_rfl) (by kernel_rfl) (fun _ _ _ h => h) (Or.inl ⟨by rfl, fun w hSw => by go_simp⟩) hHeld ?_
        simp only [Act.put, List.setIfInBounds_toArray, List.set_cons_zero, List.set_cons_succ]
        refine wpAnyH_take (i := 7) (oi := ({ dst := some 72, op := Op.build 41 #[(0, Operand.tmp 66), (1, Operand.tmp 68), (2, Operand.tmp 71)], type := 41, pos := "law.go:133", after := #[{ on := 1, ground := Ground.data }, { on := 3, ground := Ground.data }, { on := 6, ground := Ground.data }], guard := none } : Oper)) (v := .agg #[.int .i64 (n : Int), .int .i64 (i : Int), .slice A8 (d - 1) (c1 - 1)]) rfl (by kernel_rfl) (by kernel_rfl) (by kernel_rfl) (fun _ _ _ h => h) (Or.inl ⟨by rfl, fun w hSw => by go_simp⟩) hHeld ?_
        simp only [Act.put, List.setIfInBounds_toArray, List.set_cons_zero, List.set_cons_succ]
        have HB12 := Lib.hid (below_drew (below_alloc HB24.out (.cells #[.int .i64 0, .int .i64 0, .slice none 0 0] 41)))
        have HK12 := Lib.hid (heap_alloc_new w4 (.cells #[.int .i64 0, .int .i64 0, .slice none 0 0] 41))
        have HB13 := Lib.hid (below_setRow HB12.out (show W2.heap.size ≤ w4.heap.size from HB24.out.size) #[.int .i64 (n : Int), .int .i64 (i : Int), .slice A8 (d - 1) (c1 - 1)])
        have hk13 := setRow_heap ((w4.alloc (.cells #[.int .i64 0, .int .i64 0, .slice none 0 0] 41)).drew) w4.heap.size _ #[.int .i64 (n : Int), .int .i64 (i : Int), .slice A8 (d - 1) (c1 - 1)] _ _ HK12.out
        refine wpAnyH_ready (rs := [8]) (by kernel_rfl) (by simp) ?_
        refine AllReadyH.cons (o := ({ dst := some 10, op := Op.alloc 41, type := 0, pos := "law.go:133", after := #[], guard := none } : Oper)) rfl (fun K hK => ?_) AllReadyH.nil
        go_simp
        refine hK.out _ _ (HSS.out _ HB12.out) (fun hHeld => ?_)
        clear hK K
        try simp only [Act.put, List.setIfInBounds_toArray, List.set_cons_zero, List.set_cons_succ]
        refine wpAnyH_ready (rs := [9]) (by kernel_rfl) (by simp) ?_
        refine AllReadyH.cons (o := ({ dst := none, op := Op.store 41 (Operand.tmp 10) (Operand.tmp 72), type := 0, pos := "law.go:133", after := #[{ on := 8, ground := Ground.data }, { on := 7, ground := Ground.data }, { on := 0, ground := Ground.phase }, { on := 1, ground := Ground.phase }, { on := 2, ground := Ground.phase }, { on := 3, ground := Ground.phase }, { on := 4, ground := Ground.phase }, { on := 5, ground := Ground.phase }, { on := 6, ground := Ground.phase }, { on := 7, ground := Ground.phase }, { on := 8, ground := Ground.phase }], guard := none } : Oper)) rfl (fun K hK => ?_) AllReadyH.nil
        rw [if_pos (by rfl)]
        refine wp_store_row 41 (.tmp 10) (.tmp 72) rfl w4.heap.size #[.int .i64 (n : Int), .int .i64 (i : Int), .slice A8 (d - 1) (c1 - 1)] (by rfl) (by rfl) 41 #[.int .i64 0, .int .i64 0, .slice none 0 0] HK12.out HI9.out.2 rfl (by simp [Value.oneCell']) ?_
        refine hK.out _ _ (HSS.out _ HB13.out) (fun hHeld => ?_)
        clear hK K
        try simp only [Act.put, List.setIfInBounds_toArray, List.set_cons_zero, List.set_cons_succ]
        refine wpAnyH_done (by kernel_rfl) ?_ _
        clear hHeld hs11 hbu
        obtain ⟨W13, hW13⟩ : ∃ W, ((w4.alloc (.cells #[.int .i64 0, .int .i64 0, .slice none 0 0] 41)).drew).setRow w4.heap.size #[.int .i64 (n : Int), .int .i64 (i : Int), .slice A8 (d - 1) (c1 - 1)] = W := ⟨_, rfl⟩
        rw [hW13] at HB13 hk13 ⊢
        clear hW13 HB12 HK12
        go_wp2_with fail
        have HSZ := Lib.hid (show ∀ u : World, Below W13.heap.size W13 u → (loadVar 41 ⟨w4.heap.size, 0, none⟩).run Tryd.prog u = .ok (.agg #[.int .i64 (n : Int), .int .i64 (i : Int), .slice A8 (d - 1) (c1 - 1)]) u ∧ u.rangeAt b (o + i * 32) P from fun u h =>
          ⟨run_loadVar_row (P := Tryd.prog) u w4.heap.size 41 41 _ (0, 0) _ ((h.block _ (blk_lt hk13)).trans hk13) HI9.out.1 rfl HI9.out.2, (HSS.out u (HB13.out.trans (Below.mono h HB13.out.size))).2.2⟩)
        have HTZ := Lib.hid (show ∀ u : World, Below W13.heap.size W13 u → Below W2.heap.size W2 u from fun u h => HB13.out.trans (Below.mono h HB13.out.size))
        have HTR := Lib.hid (show ∀ u u' : World, Below W13.heap.size W13 u → Below u.heap.size u u' → Below W13.heap.size W13 u' from fun u u' hu hu' => hu.trans (Below.mono hu' hu.size))
        have hzH := (zero_of_info infoHash).1
        have hzl := nums_one .u8 z32h
        have hzs : (nums .u8 z32h).length = 32 := rfl
        obtain ⟨Z, hZ⟩ : ∃ Z, nums .u8 z32h = Z := ⟨_, rfl⟩
        have hZ2 : nums .u8 (List.replicate 32 0) = Z := hZ
        rw [hZ] at HUP hzl hzs
        rw [hZ2] at hzH
        have HIZ := Lib.hid (show (Tryd.prog.info? 25).map (·.size) = some Z.toArray.size ∧ Z.toArray.all (·.oneCell') = true from ⟨by rw [List.size_toArray, hzs]; exact (zero_of_info infoHash).2, all_oneCell_toArray hzl⟩)
        clear hZ hZ2 hzl hzs hk13
        have HBD := Lib.hid (below_drew (Below.refl W13.heap.size W13))
        have hHeld := HSZ.out _ HBD.out
        refine wp_region_held (S := fun u => (loadVar 41 ⟨w4.heap.size, 0, none⟩).run Tryd.prog u = .ok (.agg #[.int .i64 (n : Int), .int .i64 (i : Int), .slice A8 (d - 1) (c1 - 1)]) u ∧ u.rangeAt b (o + i * 32) P) (by kernel_rfl) ?_
        change wpAnyH _ _ _ _ _ _ _ _ (World.drew _)
        refine wpAnyH_take (i := 0) (oi := ({ dst := some 74, op := Op.load 41 (Operand.tmp 10), type := 41, pos := "law.go:134", after := #[], guard := none } : Oper)) (v := .agg #[.int .i64 (n : Int), .int .i64 (i : Int), .slice A8 (d - 1) (c1 - 1)]) rfl (by kernel_rfl) (by kernel_rfl) (by kernel_rfl) (fun _ _ _ h => h) (Or.inl ⟨by rfl, fun w hSw => by obtain ⟨z0, z1⟩ := hSw; go_simp⟩) hHeld ?_
        simp only [Act.put, List.setIfInBounds_toArray, List.set_cons_zero, List.set_cons_succ]
        refine wpAnyH_take (i := 1) (oi := ({ dst := some 75, op := Op.move (Operand.tmp 0), type := 22, pos := "law.go:134", after := #[], guard := none } : Oper)) (v := .slice (some ⟨b, o, none⟩) n c) rfl (by kernel_rfl) (by kernel_rfl) (by kernel_rfl) (fun _ _ _ h => h) (Or.inl ⟨by rfl, fun w hSw => by go_simp⟩) hHeld ?_
        simp only [Act.put, List.setIfInBounds_toArray, List.set_cons_zero, List.set_cons_succ]
        refine wpAnyH_take (i := 2) (oi := ({ dst := some 76, op := Op.move (Operand.tmp 1), type := 3, pos := "law.go:134", after := #[], guard := none } : Oper)) (v := .int .i64 (i : Int)) rfl (by kernel_rfl) (by kernel_rfl) (by kernel_rfl) (fun _ _ _ h => h) (Or.inl ⟨by rfl, fun w hSw => by go_simp⟩) hHeld ?_
        simp only [Act.put, List.setIfInBounds_toArray, List.set_cons_zero, List.set_cons_succ]
        refine wpAnyH_take (i := 3) (oi := ({ dst := some 77, op := Op.indexAddr 22 (Operand.tmp 75) (Operand.tmp 76), type := 0, pos := "law.go:134", after := #[{ on := 1, ground := Ground.data }, { on := 2, ground := Ground.data }], guard := none } : Oper)) (v := .pointer (some ⟨b, o + i * 32, none⟩)) rfl (by kernel_rfl) (by kernel_rfl) (by kernel_rfl) (fun _ _ _ h => h) (Or.inl ⟨by rfl, fun w hSw => by go_simp⟩) hHeld ?_
        simp only [Act.put, List.setIfInBounds_toArray, List.set_cons_zero, List.set_cons_succ]
        refine wpAnyH_take (i := 4) (oi := ({ dst := some 78, op := Op.load 25 (Operand.tmp 77), type := 25, pos := "law.go:134", after := #[{ on := 3, ground := Ground.data }], guard := none } : Oper)) (v := .agg P.toArray) rfl (by kernel_rfl) (by kernel_rfl) (by kernel_rfl) (fun _ _ _ h => h) (yieldsIf_load_mid (by rfl) _ _ rfl b (o + i * 32) rfl P _ (fun _ h => h.2) hu rfl hi1) hHeld ?_
        simp only [Act.put, List.setIfInBounds_toArray, List.set_cons_zero, List.set_cons_succ]
        refine wpAnyH_ready (rs := [5, 9]) (by kernel_rfl) (by simp) ?_
        refine AllReadyH.cons (o := ({ dst := some 79, op := Op.call { callee := Callee.value (Operand.func 34), args := #[Operand.tmp 74, Operand.tmp 78], argTypes := #[41, 25] }, type := 50, pos := "law.go:134", after := #[{ on := 0, ground := Ground.data }, { on := 4, ground := Ground.data }], guard := none } : Oper)) rfl (fun K hK => ?_) (AllReadyH.cons (o := ({ dst := some 11, op := Op.alloc 25, type := 0, pos := "law.go:134", after := #[], guard := none } : Oper)) rfl (fun K hK => ?_) AllReadyH.nil)
        · skip
          go_simp
          (with_reducible refine (HUP.out A8 (c1 - 1) _ (by omega) (HC8.out _ (HTZ.out _ HBD.out)) (by have := HC1.out; omega) (HCY.out _ (HTZ.out _ HBD.out)).2).mono ?_)
          rintro e w5 ⟨rfl, hb5⟩
          have HB5 := Lib.hid (HTR.out _ _ HBD.out hb5)
          clear hb5
          go_wp2_with fail
          refine hK.out _ _ (HSZ.out _ HB5.out) (fun hHeld => ?_)
          clear hK K
          try simp only [Act.put, List.setIfInBounds_toArray, List.set_cons_zero, List.set_cons_succ]
          refine wpAnyH_take (i := 6) (oi := ({ dst := some 73, op := Op.move (Operand.tmp 79), type := 50, pos := "law.go:134", after := #[{ on := 5, ground := Ground.data }], guard := none } : Oper)) (v := .tuple #[.agg Z.toArray, .int .i64 3]) rfl (by kernel_rfl) (by kernel_rfl) (by kernel_rfl) (fun _ _ _ h => h) (Or.inl ⟨by rfl, fun w hSw => by go_simp⟩) hHeld ?_
          simp only [Act.put, List.setIfInBounds_toArray, List.set_cons_zero, List.set_cons_succ]
          refine wpAnyH_take (i := 7) (oi := ({ dst := some 80, op := Op.extract (Operand.tmp 73) 0, type := 25, pos := "law.go:134", after := #[{ on := 6, ground := Ground.data }], guard := none } : Oper)) (v := .agg Z.toArray) rfl (by kernel_rfl) (by kernel_rfl) (by kernel_rfl) (fun _ _ _ h => h) (Or.inl ⟨by rfl, fun w hSw => by go_simp⟩) hHeld ?_
          simp only [Act.put, List.setIfInBounds_toArray, List.set_cons_zero, List.set_cons_succ]
          refine wpAnyH_take (i := 8) (oi := ({ dst := some 81, op := Op.extract (Operand.tmp 73) 1, type := 42, pos := "law.go:134", after := #[{ on := 6, ground := Ground.data }, { on := 10, ground := Ground.gcOnly Departure.lateStores }], guard := none } : Oper)) (v := .int .i64 3) rfl (by kernel_rfl) (by kernel_rfl) (by kernel_rfl) (fun _ _ _ h => h) (Or.inl ⟨by rfl, fun w hSw => by go_simp⟩) hHeld ?_
          simp only [Act.put, List.setIfInBounds_toArray, List.set_cons_zero, List.set_cons_succ]
          have HB6 := Lib.hid (below_alloc HB5.out (.cells Z.toArray 25))
          have HK6 := Lib.hid (heap_alloc_new w5 (.cells Z.toArray 25))
          refine wpAnyH_ready (rs := [9]) (by kernel_rfl) (by simp) ?_
          refine AllReadyH.cons (o := ({ dst := some 11, op := Op.alloc 25, type := 0, pos := "law.go:134", after := #[], guard := none } : Oper)) rfl (fun K hK => ?_) AllReadyH.nil
          go_simp
          refine hK.out _ _ (HSZ.out _ HB6.out) (fun hHeld => ?_)
          clear hK K
          try simp only [Act.put, List.setIfInBounds_toArray, List.set_cons_zero, List.set_cons_succ]
          have HB7 := Lib.hid (below_setRow HB6.out (show W13.heap.size ≤ w5.heap.size from HB5.out.size) Z.toArray)
          refine wpAnyH_ready (rs := [10]) (by kernel_rfl) (by simp) ?_
          refine AllReadyH.cons (o := ({ dst := none, op := Op.store 25 (Operand.tmp 11) (Operand.tmp 80), type := 0, pos := "law.go:134", after := #[{ on := 9, ground := Ground.data }, { on := 7, ground := Ground.data }, { on := 5, ground := Ground.chain }, { on := 0, ground := Ground.phase }, { on := 1, ground := Ground.phase }, { on := 2, ground := Ground.phase }, { on := 3, ground := Ground.phase }, { on := 4, ground := Ground.phase }, { on := 5, ground := Ground.phase }, { on := 6, ground := Ground.phase }, { on := 7, ground := Ground.phase }, { on := 8, ground := Ground.textOnly Departure.lateStores }, { on := 9, ground := Ground.phase }], guard := none } : Oper)) rfl (fun K hK => ?_) AllReadyH.nil
          rw [if_pos (by rfl)]
          refine wp_store_row 25 (.tmp 11) (.tmp 80) rfl w5.heap.size Z.toArray (by rfl) (by rfl) 25 Z.toArray HK6.out HIZ.out.1 rfl HIZ.out.2 ?_
          refine hK.out _ _ (HSZ.out _ HB7.out) (fun hHeld => ?_)
          clear hK K
          try simp only [Act.put, List.setIfInBounds_toArray, List.set_cons_zero, List.set_cons_succ]
          refine wpAnyH_take (i := 11) (oi := ({ dst := some 12, op := Op.assign (Operand.tmp 81), type := 42, pos := "law.go:134", after := #[{ on := 8, ground := Ground.data }, { on := 10, ground := Ground.chain }, { on := 0, ground := Ground.phase }, { on := 1, ground := Ground.phase }, { on := 2, ground := Ground.phase }, { on := 3, ground := Ground.phase }, { on := 4, ground := Ground.phase }, { on := 5, ground := Ground.phase }, { on := 6, ground := Ground.phase }, { on := 7, ground := Ground.phase }, { on := 8, ground := Ground.phase }, { on := 9, ground := Ground.phase }, { on := 10, ground := Ground.phase }], guard := none } : Oper)) (v := .int .i64 3) rfl (by kernel_rfl) (by kernel_rfl) (by kernel_rfl) (fun _ _ _ h => h) (Or.inl ⟨by rfl, fun w hSw => by go_simp⟩) hHeld ?_
          simp only [Act.put, List.setIfInBounds_toArray, List.set_cons_zero, List.set_cons_succ]
          refine wpAnyH_done (by kernel_rfl) ?_ _
          clear hHeld
          go_wp2_with fail
          refine (HAW.out _ (HCY.out _ (HTZ.out _ HB7.out)).2).mono ?_
          rintro e w8 ⟨rfl, hb8⟩
          go_wp2_with fail
          go_ret
          exact ⟨rfl, (HCY.out _ (HTZ.out _ HB7.out)).2.trans (Below.mono hb8 (HCY.out _ (HTZ.out _ HB7.out)).2.size)⟩
        · skip
          have HB6 := Lib.hid (below_drew (below_alloc (Below.refl W13.heap.size W13) (.cells Z.toArray 25)))
          have HK6 := Lib.hid (heap_alloc_new W13 (.cells Z.toArray 25))
          go_simp
          refine hK.out _ _ (HSZ.out _ HB6.out) (fun hHeld => ?_)
          clear hK K
          try simp only [Act.put, List.setIfInBounds_toArray, List.set_cons_zero, List.set_cons_succ]
          refine wpAnyH_ready (rs := [5]) (by kernel_rfl) (by simp) ?_
          refine AllReadyH.cons (o := ({ dst := some 79, op := Op.call { callee := Callee.value (Operand.func 34), args := #[Operand.tmp 74, Operand.tmp 78], argTypes := #[41, 25] }, type := 50, pos := "law.go:134", after := #[{ on := 0, ground := Ground.data }, { on := 4, ground := Ground.data }], guard := none } : Oper)) rfl (fun K hK => ?_) AllReadyH.nil
          go_simp
          (with_reducible refine (HUP.out A8 (c1 - 1) _ (by omega) (HC8.out _ (HTZ.out _ HB6.out)) (by have := HC1.out; omega) (HCY.out _ (HTZ.out _ HB6.out)).2).mono ?_)
          rintro e w5 ⟨rfl, hb5⟩
          have HB5 := Lib.hid (HTR.out _ _ HB6.out hb5)
          have HK5 := Lib.hid ((hb5.block _ (blk_lt HK6.out)).trans HK6.out)
          clear hb5
          go_wp2_with fail
          refine hK.out _ _ (HSZ.out _ HB5.out) (fun hHeld => ?_)
          clear hK K
          try simp only [Act.put, List.setIfInBounds_toArray, List.set_cons_zero, List.set_cons_succ]
          refine wpAnyH_take (i := 6) (oi := ({ dst := some 73, op := Op.move (Operand.tmp 79), type := 50, pos := "law.go:134", after := #[{ on := 5, ground := Ground.data }], guard := none } : Oper)) (v := .tuple #[.agg Z.toArray, .int .i64 3]) rfl (by kernel_rfl) (by kernel_rfl) (by kernel_rfl) (fun _ _ _ h => h) (Or.inl ⟨by rfl, fun w hSw => by go_simp⟩) hHeld ?_
          simp only [Act.put, List.setIfInBounds_toArray, List.set_cons_zero, List.set_cons_succ]
          refine wpAnyH_take (i := 7) (oi := ({ dst := some 80, op := Op.extract (Operand.tmp 73) 0, type := 25, pos := "law.go:134", after := #[{ on := 6, ground := Ground.data }], guard := none } : Oper)) (v := .agg Z.toArray) rfl (by kernel_rfl) (by kernel_rfl) (by kernel_rfl) (fun _ _ _ h => h) (Or.inl ⟨by rfl, fun w hSw => by go_simp⟩) hHeld ?_
          simp only [Act.put, List.setIfInBounds_toArray, List.set_cons_zero, List.set_cons_succ]
          refine wpAnyH_take (i := 8) (oi := ({ dst := some 81, op := Op.extract (Operand.tmp 73) 1, type := 42, pos := "law.go:134", after := #[{ on := 6, ground := Ground.data }, { on := 10, ground := Ground.gcOnly Departure.lateStores }], guard := none } : Oper)) (v := .int .i64 3) rfl (by kernel_rfl) (by kernel_rfl) (by kernel_rfl) (fun _ _ _ h => h) (Or.inl ⟨by rfl, fun w hSw => by go_simp⟩) hHeld ?_
          simp only [Act.put, List.setIfInBounds_toArray, List.set_cons_zero, List.set_cons_succ]
          have HB7 := Lib.hid (below_setRow HB5.out (Nat.le_refl W13.heap.size) Z.toArray)
          refine wpAnyH_ready (rs := [10]) (by kernel_rfl) (by simp) ?_
          refine AllReadyH.cons (o := ({ dst := none, op := Op.store 25 (Operand.tmp 11) (Operand.tmp 80), type := 0, pos := "law.go:134", after := #[{ on := 9, ground := Ground.data }, { on := 7, ground := Ground.data }, { on := 5, ground := Ground.chain }, { on := 0, ground := Ground.phase }, { on := 1, ground := Ground.phase }, { on := 2, ground := Ground.phase }, { on := 3, ground := Ground.phase }, { on := 4, ground := Ground.phase }, { on := 5, ground := Ground.phase }, { on := 6, ground := Ground.phase }, { on := 7, ground := Ground.phase }, { on := 8, ground := Ground.textOnly Departure.lateStores }, { on := 9, ground := Ground.phase }], guard := none } : Oper)) rfl (fun K hK => ?_) AllReadyH.nil
          rw [if_pos (by rfl)]
          refine wp_store_row 25 (.tmp 11) (.tmp 80) rfl W13.heap.size Z.toArray (by rfl) (by rfl) 25 Z.toArray HK5.out HIZ.out.1 rfl HIZ.out.2 ?_
          refine hK.out _ _ (HSZ.out _ HB7.out) (fun hHeld => ?_)
          clear hK K
          try simp only [Act.put, List.setIfInBounds_toArray, List.set_cons_zero, List.set_cons_succ]
          refine wpAnyH_take (i := 11) (oi := ({ dst := some 12, op := Op.assign (Operand.tmp 81), type := 42, pos := "law.go:134", after := #[{ on := 8, ground := Ground.data }, { on := 10, ground := Ground.chain }, { on := 0, ground := Ground.phase }, { on := 1, ground := Ground.phase }, { on := 2, ground := Ground.phase }, { on := 3, ground := Ground.phase }, { on := 4, ground := Ground.phase }, { on := 5, ground := Ground.phase }, { on := 6, ground := Ground.phase }, { on := 7, ground := Ground.phase }, { on := 8, ground := Ground.phase }, { on := 9, ground := Ground.phase }, { on := 10, ground := Ground.phase }], guard := none } : Oper)) (v := .int .i64 3) rfl (by kernel_rfl) (by kernel_rfl) (by kernel_rfl) (fun _ _ _ h => h) (Or.inl ⟨by rfl, fun w hSw => by go_simp⟩) hHeld ?_
          simp only [Act.put, List.setIfInBounds_toArray, List.set_cons_zero, List.set_cons_succ]
          refine wpAnyH_done (by kernel_rfl) ?_ _
          clear hHeld
          go_wp2_with fail
          refine (HAW.out _ (HCY.out _ (HTZ.out _ HB7.out)).2).mono ?_
          rintro e w8 ⟨rfl, hb8⟩
          go_wp2_with fail
          go_ret
          exact ⟨rfl, (HCY.out _ (HTZ.out _ HB7.out)).2.trans (Below.mono hb8 (HCY.out _ (HTZ.out _ HB7.out)).2.size)⟩
    case hstep =>
      rintro listed a W q ⟨hsz, hlo, hO, x39, x42, x44, x45, x9, x46, rfl, h46, hT⟩ hq
      have hlt : q < 14 := (ready_lt hq).1
      have hun := unlisted_of hq
      have hlo2 : ∀ k, [0, 1, 2, 3, 5, 6, 8].contains k = true → (listed.setIfInBounds q true).getD k false = true := fun k hk => by
        rw [listed_set (by omega)]
        split
        · rfl
        · exact hlo k hk
      have hd16 := HDL.out
      have hyl := HW7.out.1
      obtain rfl | rfl | rfl | rfl | rfl | rfl | rfl := rest6 q hlt (fun e => by rw [hlo q e] at hun; cases hun)
      · rw [hun] at hO hT
        obtain ⟨⟨e7, e10, e11, e13⟩, hO2⟩ := ord_4 hO
        rw [e7, e10, e13] at hT
        refine wpOp_step (o := ({ dst := some 39, op := Op.buildSlice 22 0 #[], type := 22, pos := "law.go:126", after := #[], guard := none } : Oper)) rfl (fun K' hK => ?_)
        have hfin := fun a2 (h2 : a2 = chain6 a0 (.slice (some ⟨W.heap.size, 0, none⟩) 0 0) x42 x44 x45 x9 x46) => hK a2 (W.alloc (.cells #[] 25)) ⟨by simp [hsz], hlo2, by simp only [listed_set (show 4 < listed.size by omega)]; rw [e7, e10, e11, e13]; exact hO2, _, x42, x44, x45, x9, x46, h2, by simp only [listed_set (show 4 < listed.size by omega)]; exact h46, by simp only [listed_set (show 4 < listed.size by omega)]; rw [e7, e10, e13]; exact hT.s4⟩
        clear hK h46 hT hO hO2
        have hf2 := hfin _ (chain_39 a0 x39 x42 x44 x45 x9 x46 _)
        clear hfin
        subst ha0
        simp only [chain6, Act.put, List.setIfInBounds_toArray, List.set_cons_zero, List.set_cons_succ] at hf2 ⊢
        go_simp
        exact hf2
      · have h4 := waits_of (o := ({ dst := some 42, op := Op.call { callee := Callee.builtin Builtin.append, args := #[Operand.tmp 39, Operand.tmp 41], argTypes := #[22, 22] }, type := 22, pos := "law.go:126", after := #[{ on := 4, ground := Ground.data }, { on := 6, ground := Ground.data }], guard := none } : Oper)) hq rfl 4 (by kernel_rfl)
        rw [hun, h4] at hO hT
        obtain ⟨⟨e10, e11, e13⟩, hO2⟩ := ord_7 hO
        rw [e10, e13] at hT
        refine wpOp_step (o := ({ dst := some 42, op := Op.call { callee := Callee.builtin Builtin.append, args := #[Operand.tmp 39, Operand.tmp 41], argTypes := #[22, 22] }, type := 22, pos := "law.go:126", after := #[{ on := 4, ground := Ground.data }, { on := 6, ground := Ground.data }], guard := none } : Oper)) rfl (fun K' hK => ?_)
        refine Kd.R_append_rows_step kH (w0 := W2) W2.heap.size (by rfl) (.tmp 39) (.tmp 41) 22 25 (.agg (nums .u8 (List.replicate 32 0)).toArray) 32 (by rfl) Tryd.underlying22 infoH3 rfl (by decide) (by decide) x39 [] ys A1 d c1 (fun _ => True) (fun _ => False) (chain_e39 _ _ _ _ _ _ _ hsz0) ((chain_e41 _ _ _ _ _ _ _).trans h41) (hT.r39 rfl rfl) (HCY.out _ hT.below).1 (fun _ _ h => kH_move h) (fun _ h => h.elim) (fun _ _ => trivial) hT.below hT.below.size (show (0 + d) * 32 ≤ 140737488355328 by omega) ?_
        intro v w3 ho hb hg hat
        refine hK _ _ ⟨by simp [hsz], hlo2, by simp only [listed_set (show 7 < listed.size by omega)]; rw [h4, e10, e11, e13]; exact hO2, x39, v, x44, x45, x9, x46, chain_42 _ _ _ _ _ _ _ _, by simp only [listed_set (show 7 < listed.size by omega)]; exact h46, by simp only [listed_set (show 7 < listed.size by omega)]; rw [h4, e10, e13]; exact hT.s7 ho hb hg hat⟩
      · rw [hun] at hO hT
        obtain ⟨⟨e10, e11, e13⟩, hO2⟩ := ord_9 hO
        rw [e10, e13] at hT
        refine wpOp_step (o := ({ dst := some 44, op := Op.buildSlice 22 1 #[(0, Operand.tmp 43)], type := 22, pos := "law.go:126", after := #[{ on := 8, ground := Ground.data }], guard := none } : Oper)) rfl (fun K' hK => ?_)
        have hT9 := hT.s9
        rw [HW7.out.2.2.2] at hT9
        have hfin := fun a2 (h2 : a2 = chain6 a0 x39 x42 (.slice (some ⟨W.heap.size, 0, none⟩) 1 1) x45 x9 x46) => hK a2 (W.alloc (.cells HC.toArray 25)) ⟨by simp [hsz], hlo2, by simp only [listed_set (show 9 < listed.size by omega)]; rw [e10, e11, e13]; exact hO2, x39, x42, _, x45, x9, x46, h2, by simp only [listed_set (show 9 < listed.size by omega)]; exact h46, by simp only [listed_set (show 9 < listed.size by omega)]; rw [e10, e13]; exact hT9⟩
        clear hK h46 hT hT9 hO hO2
        have hf2 := hfin _ (chain_44 a0 x39 x42 x44 x45 x9 x46 _)
        clear hfin
        subst ha0
        simp only [chain6, Act.put, List.setIfInBounds_toArray, List.set_cons_zero, List.set_cons_succ] at hf2 ⊢
        go_simp
        exact hf2
      · have h7 := waits_of (o := ({ dst := some 45, op := Op.call { callee := Callee.builtin Builtin.append, args := #[Operand.tmp 42, Operand.tmp 44], argTypes := #[22, 22] }, type := 22, pos := "law.go:126", after := #[{ on := 7, ground := Ground.data }, { on := 9, ground := Ground.data }, { on := 7, ground := Ground.chain }], guard := none } : Oper)) hq rfl 7 (by kernel_rfl)
        have h9 := waits_of (o := ({ dst := some 45, op := Op.call { callee := Callee.builtin Builtin.append, args := #[Operand.tmp 42, Operand.tmp 44], argTypes := #[22, 22] }, type := 22, pos := "law.go:126", after := #[{ on := 7, ground := Ground.data }, { on := 9, ground := Ground.data }, { on := 7, ground := Ground.chain }], guard := none } : Oper)) hq rfl 9 (by kernel_rfl)
        rw [hun, h7, h9] at hO hT
        obtain ⟨⟨e11, e13⟩, hO2⟩ := ord_10 hO
        rw [e13] at hT
        obtain ⟨g, rfl, hg1, _, _⟩ := hT.r44 rfl rfl
        refine wpOp_step (o := ({ dst := some 45, op := Op.call { callee := Callee.builtin Builtin.append, args := #[Operand.tmp 42, Operand.tmp 44], argTypes := #[22, 22] }, type := 22, pos := "law.go:126", after := #[{ on := 7, ground := Ground.data }, { on := 9, ground := Ground.data }, { on := 7, ground := Ground.chain }], guard := none } : Oper)) rfl (fun K' hK => ?_)
        refine Kd.R_append_rows_step kH (w0 := W2) W2.heap.size (by rfl) (.tmp 42) (.tmp 44) 22 25 (.agg (nums .u8 (List.replicate 32 0)).toArray) 32 (by rfl) Tryd.underlying22 infoH3 rfl (by decide) (by decide) x42 ys [h] (some ⟨g, 0, none⟩) 1 1 (fun _ => True) (fun _ => False) (chain_e42 _ _ _ _ _ _ _ hsz0) (chain_e44 _ _ _ _ _ _ _ hsz0) (hT.r42 rfl rfl) (C_hash1 HH1.out hg1) (fun _ _ h => kH_move h) (fun _ h => h.elim) (fun _ _ => trivial) hT.below hT.below.size (show (ys.length + 1) * 32 ≤ 140737488355328 by omega) ?_
        intro v w3 ho hb hg hat
        refine hK _ _ ⟨by simp [hsz], hlo2, by simp only [listed_set (show 10 < listed.size by omega)]; rw [h7, h9, e11, e13]; exact hO2, x39, x42, _, v, x9, x46, chain_45 _ _ _ _ _ _ _ _, (by simp only [listed_set (show 10 < listed.size by omega)]; rw [e11]; intro e; cases e), by simp only [listed_set (show 10 < listed.size by omega)]; rw [h7, h9, e13]; exact hT.s10 ho hb hg⟩
      · have h10 := waits_of (o := ({ dst := some 46, op := Op.build 41 #[(0, Operand.tmp 36), (1, Operand.tmp 38), (2, Operand.tmp 45)], type := 41, pos := "law.go:126", after := #[{ on := 1, ground := Ground.data }, { on := 3, ground := Ground.data }, { on := 10, ground := Ground.data }], guard := none } : Oper)) hq rfl 10 (by kernel_rfl)
        rw [hun, h10] at hO
        rw [h10] at hT
        obtain ⟨e13, hO2⟩ := ord_11 hO
        obtain ⟨A5, c5, e5⟩ := Kd.R_slice (hT.r45 rfl)
        rw [HW7.out.2.2.1] at e5
        subst e5
        have hbu := fun u => run_build (P := Tryd.prog) u 41 #[(0, .int .i64 (n : Int)), (1, .int .i64 (i : Int)), (2, .slice A5 (d + 1) c5)] _ (built_b3 n i A5 (d + 1) c5)
        refine wpOp_step (o := ({ dst := some 46, op := Op.build 41 #[(0, Operand.tmp 36), (1, Operand.tmp 38), (2, Operand.tmp 45)], type := 41, pos := "law.go:126", after := #[{ on := 1, ground := Ground.data }, { on := 3, ground := Ground.data }, { on := 10, ground := Ground.data }], guard := none } : Oper)) rfl (fun K' hK => ?_)
        have hfin := fun a2 (h2 : a2 = chain6 a0 x39 x42 x44 (.slice A5 (d + 1) c5) x9 (.agg #[.int .i64 (n : Int), .int .i64 (i : Int), .slice A5 (d + 1) c5])) => hK a2 W ⟨by simp [hsz], hlo2, by simp only [listed_set (show 11 < listed.size by omega)]; rw [h10, e13]; exact hO2, x39, x42, x44, _, x9, _, h2, fun _ => rfl, by simp only [listed_set (show 11 < listed.size by omega)]; rw [h10]; exact hT⟩
        clear hK h46 hT hO hO2
        have hf2 := hfin _ (chain_46 a0 x39 x42 x44 _ x9 x46 _)
        clear hfin
        subst ha0
        simp only [chain6, Act.put, List.setIfInBounds_toArray, List.set_cons_zero, List.set_cons_succ] at hf2 ⊢
        go_simp
        exact hf2
      · rw [hun] at hO hT
        obtain ⟨e13, hO2⟩ := ord_12 hO
        rw [e13] at hT
        refine wpOp_of (o := ({ dst := some 9, op := Op.alloc 41, type := 0, pos := "law.go:126", after := #[], guard := none } : Oper)) rfl rfl (wp_alloc 41 rfl _ hzb ?_)
        exact ⟨by simp [hsz], hlo2, by simp only [listed_set (show 12 < listed.size by omega)]; rw [e13]; exact hO2, x39, x42, x44, x45, _, x46, chain_9 _ _ _ _ _ _ _ _, by simp only [listed_set (show 12 < listed.size by omega)]; exact h46, by simp only [listed_set (show 12 < listed.size by omega)]; rw [e13]; exact hT.s12 rfl⟩
      · have h11 := waits_of (o := ({ dst := none, op := Op.store 41 (Operand.tmp 9) (Operand.tmp 46), type := 0, pos := "law.go:126", after := #[{ on := 12, ground := Ground.data }, { on := 11, ground := Ground.data }, { on := 10, ground := Ground.chain }, { on := 0, ground := Ground.phase }, { on := 1, ground := Ground.phase }, { on := 2, ground := Ground.phase }, { on := 3, ground := Ground.phase }, { on := 4, ground := Ground.phase }, { on := 5, ground := Ground.phase }, { on := 6, ground := Ground.phase }, { on := 7, ground := Ground.phase }, { on := 8, ground := Ground.phase }, { on := 9, ground := Ground.phase }, { on := 10, ground := Ground.phase }, { on := 11, ground := Ground.phase }, { on := 12, ground := Ground.phase }], guard := none } : Oper)) hq rfl 11 (by kernel_rfl)
        have h12 := waits_of (o := ({ dst := none, op := Op.store 41 (Operand.tmp 9) (Operand.tmp 46), type := 0, pos := "law.go:126", after := #[{ on := 12, ground := Ground.data }, { on := 11, ground := Ground.data }, { on := 10, ground := Ground.chain }, { on := 0, ground := Ground.phase }, { on := 1, ground := Ground.phase }, { on := 2, ground := Ground.phase }, { on := 3, ground := Ground.phase }, { on := 4, ground := Ground.phase }, { on := 5, ground := Ground.phase }, { on := 6, ground := Ground.phase }, { on := 7, ground := Ground.phase }, { on := 8, ground := Ground.phase }, { on := 9, ground := Ground.phase }, { on := 10, ground := Ground.phase }, { on := 11, ground := Ground.phase }, { on := 12, ground := Ground.phase }], guard := none } : Oper)) hq rfl 12 (by kernel_rfl)
        rw [hun, h11, h12] at hO
        obtain ⟨⟨e7, e10⟩, hO2⟩ := ord_13 hO
        rw [hun, h12, e10] at hT
        obtain ⟨g, cs, rfl, hg2, hg3, hg4, _⟩ := hT.r9 rfl
        obtain rfl := h46 h11
        obtain ⟨A5, c5, e5⟩ := Kd.R_slice (hT.r45 rfl)
        rw [HW7.out.2.2.1] at e5
        subst e5
        have he9 := chain_e9 a0 x39 x42 x44 (.slice A5 (d + 1) c5) (.pointer (some ⟨g, 0, none⟩)) (.agg #[.int .i64 (n : Int), .int .i64 (i : Int), .slice A5 (d + 1) c5]) hsz0
        have he46 := chain_e46 a0 x39 x42 x44 (.slice A5 (d + 1) c5) (.pointer (some ⟨g, 0, none⟩)) (.agg #[.int .i64 (n : Int), .int .i64 (i : Int), .slice A5 (d + 1) c5]) hsz0
        have hT13 := hT.s13 rfl hg2 hg3 rfl e7
        have hfin : ∀ a2, a2 = chain6 a0 x39 x42 x44 (.slice A5 (d + 1) c5) (.pointer (some ⟨g, 0, none⟩)) (.agg #[.int .i64 (n : Int), .int .i64 (i : Int), .slice A5 (d + 1) c5]) → (fun listed a W => listed.size = 14 ∧ (∀ k, [0, 1, 2, 3, 5, 6, 8].contains k = true → listed.getD k false = true) ∧ ord6 (listed.getD 4 false) (listed.getD 7 false) (listed.getD 9 false) (listed.getD 10 false) (listed.getD 11 false) (listed.getD 12 false) (listed.getD 13 false) ∧ ∃ x39 x42 x44 x45 x9 x46, a = chain6 a0 x39 x42 x44 x45 x9 x46 ∧ (listed.getD 11 false = true → x46 = .agg #[.int .i64 (n : Int), .int .i64 (i : Int), x45]) ∧ TL W2 ys h (fun v => #[.int .i64 (n : Int), .int .i64 (i : Int), v]) (listed.getD 4 false) (listed.getD 7 false) (listed.getD 9 false) (listed.getD 10 false) (listed.getD 12 false) (listed.getD 13 false) x39 x42 x44 x45 x9 W) (listed.setIfInBounds 13 true) a2 (W.setRow g #[.int .i64 (n : Int), .int .i64 (i : Int), .slice A5 (d + 1) c5]) := fun a2 h2 => ⟨by simp [hsz], hlo2, by simp only [listed_set (show 13 < listed.size by omega)]; rw [h11, h12, e7, e10]; exact hO2, x39, x42, x44, _, _, _, h2, fun _ => rfl, by simp only [listed_set (show 13 < listed.size by omega)]; rw [h12, e10]; exact hT13⟩
        have hf2 := hfin _ rfl
        clear hfin
        obtain ⟨ac, hac⟩ : ∃ ac, chain6 a0 x39 x42 x44 (.slice A5 (d + 1) c5) (.pointer (some ⟨g, 0, none⟩)) (.agg #[.int .i64 (n : Int), .int .i64 (i : Int), .slice A5 (d + 1) c5]) = ac := ⟨_, rfl⟩
        rw [hac] at he9 he46 hf2 ⊢
        clear hT hT13 h46 hO hO2
        refine wpOp_of (o := ({ dst := none, op := Op.store 41 (Operand.tmp 9) (Operand.tmp 46), type := 0, pos := "law.go:126", after := #[{ on := 12, ground := Ground.data }, { on := 11, ground := Ground.data }, { on := 10, ground := Ground.chain }, { on := 0, ground := Ground.phase }, { on := 1, ground := Ground.phase }, { on := 2, ground := Ground.phase }, { on := 3, ground := Ground.phase }, { on := 4, ground := Ground.phase }, { on := 5, ground := Ground.phase }, { on := 6, ground := Ground.phase }, { on := 7, ground := Ground.phase }, { on := 8, ground := Ground.phase }, { on := 9, ground := Ground.phase }, { on := 10, ground := Ground.phase }, { on := 11, ground := Ground.phase }, { on := 12, ground := Ground.phase }], guard := none } : Oper)) rfl rfl ?_
        refine wp_store_row 41 (.tmp 9) (.tmp 46) rfl g _ he9 he46 41 cs hg3 HI9.out.2 hg4 (by simp [Value.oneCell']) ?_
        exact hf2
end Go.Proofs.YtlmcdkjobdcflaaDoor.Hand
