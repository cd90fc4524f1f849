/- The law MerkleApart: its plain law, and walked. -/
import Derived.Test.YtlmcdkjobdcflaaDoorProg
import Derived.Below
import Derived.Deep.Draws
import Derived.Deep.AppendLies
import Derived.Maps.AppendAt
import Derived.OwnWalk
import Derived.Laws.BytesArg
import Derived.Laws.MakeOwn
import Derived.Laws.OwnMore
import Derived.Deep.OwnRows
import Derived.Tactics
import Derived.Lib.ConvBytes
import Derived.Laws.Slices
import Derived.WalkKit
import Derived.KernelRfl
import Derived.RowKit3
import Derived.Deep.LoopGhost
import Derived.Deep.QuietTactic
import Derived.BigQuiet
import Derived.WideLaws
import Derived.Deep.DeepCutAuto
import Derived.Deep.CutBlock
import Derived.Deep.RegionHeld3
import Derived.Laws.Rows
import Derived.Lib.AppendStr
import Derived.ArgAppend
import Derived.Laws.IdiomCopy
import Derived.OrdersHeld
import Derived.Laws.BitsLemmas
import Derived.RowKit
import Derived.StillTailTactics
import Derived.Test.YtlmcdkjobdcflaaDoorWWords
import Derived.Test.YtlmcdkjobdcflaaDoorWLast
import Derived.Test.YtlmcdkjobdcflaaDoorWMore
import Derived.Lib.Hide
import Derived.Outline
import Derived.Deep.MidRow
import Derived.Deep.WholeRow
import Derived.Deep.DrawnRows
import Derived.Test.YtlmcdkjobdcflaaDoorLaw8Twice
namespace Go.Proofs.YtlmcdkjobdcflaaDoor.Hand
open Go Go.RowKit Go.Proofs.YtlmcdkjobdcflaaDoor.Plain Go.Proofs.YtlmcdkjobdcflaaDoor.PAll Go.Proofs.YtlmcdkjobdcflaaDoorW.PrintWords Go.Proofs.YtlmcdkjobdcflaaDoorW.PrintLast Go.Proofs.YtlmcdkjobdcflaaDoorW.PrintMore
set_option linter.unusedVariables false
set_option linter.unusedSimpArgs false
set_option maxRecDepth 100000
attribute [local go_sem ↓] Go.wp_at_zero Go.wp_at_succ
attribute [-go_sem] loadVar storeVar Instr.buildSlice
/-- At a level: wherever the two above are the same, the two pairs are. -/
def okAt (xs ys : List (List Int)) (k : Nat) : Prop := ∀ i, i < wideP xs.length (k + 1) → rdH (lev xs (k + 1)) i = rdH (lev ys (k + 1)) i → rdH (lev xs k) (2 * i) = rdH (lev ys k) (2 * i) ∧ rdH (lev xs k) (min (2 * i + 1) (wideP xs.length k - 1)) = rdH (lev ys k) (min (2 * i + 1) (wideP xs.length k - 1))
theorem rdH_ext {a b : List (List Int)} (hl : a.length = b.length) (h : ∀ i, i < a.length → rdH a i = rdH b i) : a = b := by
  refine List.ext_getElem hl fun i h1 h2 => ?_
  have := h i h1
  rwa [rdH_eq h1, rdH_eq h2] at this
theorem lev_down {xs ys : List (List Int)} (hl : xs.length = ys.length) {k : Nat} (ho : okAt xs ys k) (h : lev xs (k + 1) = lev ys (k + 1)) : lev xs k = lev ys k := by
  refine rdH_ext (by rw [lev_len, lev_len, hl]) fun t ht => ?_
  rw [lev_len] at ht
  obtain ⟨h1, h2⟩ := ho (t / 2) (show t / 2 < (wideP xs.length k + 1) / 2 by omega) (by rw [h])
  by_cases he : t % 2 = 0
  · rwa [show 2 * (t / 2) = t by omega] at h1
  · rwa [show min (2 * (t / 2) + 1) (wideP xs.length k - 1) = t by omega] at h2
theorem lev_all {xs ys : List (List Int)} (hl : xs.length = ys.length) : ∀ d, (∀ k, k < d → okAt xs ys k) → lev xs d = lev ys d → xs = ys
  | 0, _, h => h
  | d + 1, ho, h => lev_all hl d (fun k hk => ho k (by omega)) (lev_down hl (ho d (by omega)) h)
/-- P8.1's words: two lists of one root, at all of whose levels that holds, are one. -/
theorem apart_back {xs ys : List (List Int)} (hl : xs.length = ys.length) (h1 : 1 ≤ xs.length) {d : Nat} (hw : wideP xs.length d ≤ 1) (hmin : ∀ k, k < d → 1 < wideP xs.length k) (hr : rootP xs = rootP ys) (ho : ∀ k, k < d → okAt xs ys k) : xs = ys := by
  have hd := depth_of_wide hw hmin
  have hd2 : IsDepth ys.length d := hl ▸ hd
  rw [rootP_of hd, rootP_of hd2, rootAt_depth hd h1, rootAt_depth hd2 (by omega)] at hr
  refine lev_all hl d ho (rdH_ext (by rw [lev_len, lev_len, hl]) fun i hi => ?_)
  rw [lev_len] at hi
  obtain rfl : i = 0 := by omega
  exact hr
def lenV : Value → Nat
  | .slice _ n _ => n
  | _ => 0
theorem kH_set {w : World} {base : Nat} {okp : Nat → Prop} {c : List Value} {hh : List Int} (hc : c.length = 32) (h32 : hh.length = 32) : kH.M w base okp hh (c.take 0 ++ nums .u8 hh ++ c.drop (0 + (nums .u8 hh).length)) := by
  rw [List.take_zero, List.nil_append, nums_len, h32, List.drop_of_length_le (by omega), List.append_nil]
  exact kH_M h32
theorem R_form {w : World} {base n : Nat} {v : Value} {xs : List (List Int)} (h : Kd.R kH 25 w base (fun _ => True) v xs) (hn : xs.length = n) (h0 : 0 < n) : ∃ g cap, v = .slice (some ⟨g, 0, none⟩) n cap := by
  obtain ⟨_, inner, hown, hr⟩ := h
  rcases hown.2 with ⟨_, hx0⟩ | ⟨g, cap, cur, hv, _⟩
  · omega
  · exact ⟨g, cap, by rw [hv, hn]⟩
theorem kH_set2 (w : World) (base : Nat) (okp : Nat → Prop) {c H : List Value} {hh : List Int} (hc : c.length = 32) (h32 : hh.length = 32) (he : nums .u8 hh = H) : kH.M w base okp hh (c.take 0 ++ H ++ c.drop (0 + H.length)) := by
  rw [← he]
  exact kH_set hc h32
theorem R_cells {w : World} {base g n cap j : Nat} {xs : List (List Int)} (h : Kd.R kH 25 w base (fun _ => True) (.slice (some ⟨g, 0, none⟩) n cap) xs) (hj : j < xs.length) : (nums .u8 (rdH xs j)).length = 32 ∧ ∀ (t : Nat) (u : Value), (nums .u8 (rdH xs j))[t]? = some u → w.cell? ⟨g, (j : Int).toNat * 32 + t, none⟩ = some u := by
  have hC := (Kd.R_reads' h).2.2
  obtain ⟨b, o, e, _, hrg⟩ := C_hash hC (by omega)
  injection e with e
  injection e with e4 e5
  subst e4 e5
  obtain ⟨h1, h2⟩ := hrg j hj
  refine ⟨by rw [nums_len]; exact h2, fun t u hu => ?_⟩
  have := h1 t u hu
  rw [Nat.zero_add] at this
  simpa using this
theorem above_lev {zs : List (List Int)} {n : Nat} (hz : zs.length = n) (hzH : Hs zs) (hn : n ≤ 100000) (A : Option Addr) (c k : Nat) (u : World) (hr : Kd.C kH u A (wideP n k) (lev zs k)) (hc : wideP n k ≤ c) (hK : KT u) :
    Calls Tryd.prog 23 #[.slice A (wideP n k) c] u fun e w' => ∃ A2 c2, e = .returned (.slice A2 (wideP n (k + 1)) c2) ∧ wideP n (k + 1) ≤ c2 ∧ Kd.C kH w' A2 (wideP n (k + 1)) (lev zs (k + 1)) ∧ Below u.heap.size u w' := by
  refine (above_calls A (wideP n k) c (lev zs k) u (by rw [lev_len, hz]) hr hc (by have := wideP_le n k; omega) (lev_Hs hzH k) hK).mono ?_
  rintro e w' ⟨v, rfl, hv, hb⟩
  obtain ⟨A2, c2, rfl, h1, h2⟩ := Kd.R_reads hv
  have hl : (aboveP (lev zs k)).length = wideP n (k + 1) := by rw [aboveP_len, lev_len, hz]; rfl
  rw [hl] at h1 h2 ⊢
  exact ⟨A2, c2, rfl, h1, h2, hb⟩
def pOk (xs ys : List (List Int)) (k i : Nat) : Prop := rdH (lev xs (k + 1)) i = rdH (lev ys (k + 1)) i → rdH (lev xs k) (2 * i) = rdH (lev ys k) (2 * i) ∧ rdH (lev xs k) (min (2 * i + 1) (wideP xs.length k - 1)) = rdH (lev ys k) (min (2 * i + 1) (wideP xs.length k - 1))
theorem info_of {p : List Int} (h : p.length = 32) : (Tryd.prog.info? 25).map (·.size) = some (nums .u8 p).length := by rw [nums_len, h]; exact (zero_of_info infoHash).2
theorem set_Hs {xs : List (List Int)} (h : Hs xs) {j : Nat} {q : List Int} (hq : q.length = 32 ∧ ∀ x ∈ q, 0 ≤ x ∧ x < 256) : Hs (xs.set j q) := by
  intro p hp
  rcases List.mem_or_eq_of_mem_set hp with h1 | rfl
  · exact h p h1
  · exact hq
theorem set_ne {xs : List (List Int)} {j : Nat} {q : List Int} (hj : j < xs.length) (hne : rdH xs j ≠ q) : xs ≠ xs.set j q := by
  intro e
  apply hne
  have h2 : rdH (xs.set j q) j = q := by rw [rdH_eq (by simpa using hj)]; simp
  rw [← h2, ← e]
set_option maxHeartbeats 8000000 in
theorem apartm_calls (A : Option Addr) (n c : Nat) (xs : List (List Int)) (at_ : Int) (hh : List Int) (w : World) (hn : n = xs.length) (hr : Kd.C kH w A n xs) (hc : n ≤ c) (hH : Hs xs) (hh32 : hh.length = 32) (hhb : ∀ x ∈ hh, 0 ≤ x ∧ x < 256) (hK : KT w) :
    Calls Tryd.prog 8 #[.slice A n c, .int .i64 at_, .agg (nums .u8 hh).toArray] w fun e w' => e = .returned (.bool true) ∧ Below w.heap.size w w' := by
  have hm := Kd.C_max hr
  have HAW := Lib.hid (fun (u : World) (hu : Below w.heap.size w u) => awake8_calls u (hK.below hu (Nat.le_refl _)))
  have hu := Tryd.underlying25
  have hHl : (nums .u8 hh).length = 32 := by rw [nums_len]; exact hh32
  have hH1 := nums_one .u8 hh
  obtain ⟨H, hHe⟩ : ∃ H, nums .u8 hh = H := ⟨_, rfl⟩
  rw [hHe] at hHl hH1 ⊢
  have hi2 : (Tryd.prog.info? 25).map (·.size) = some H.length := by rw [hHl]; exact (zero_of_info infoHash).2
  have HB0 := Lib.hid (below_alloc (Below.refl w.heap.size w) (.cells H.toArray 25))
  have HK0 := Lib.hid (heap_alloc_new w (.cells H.toArray 25))
  have HRH := Lib.hid (show ∀ u : World, Below (w.alloc (.cells H.toArray 25)).heap.size (w.alloc (.cells H.toArray 25)) u → u.rangeAt w.heap.size 0 H from fun u hu j v hj => by
    rw [Nat.zero_add, blk_cell ((hu.block _ (blk_lt HK0.out)).trans HK0.out), List.getElem?_toArray]
    exact hj)
  obtain h1 | h1 | h1 | h1 : 20 < n ∨ (¬ 20 < n ∧ at_ < 0) ∨ (¬ 20 < n ∧ ¬ at_ < 0 ∧ (n : Int) ≤ at_) ∨ (¬ 20 < n ∧ ∃ j : Nat, at_ = (j : Int) ∧ j < n) := by
    by_cases c1 : 20 < n
    · exact .inl c1
    · by_cases c2 : at_ < 0
      · exact .inr (.inl ⟨c1, c2⟩)
      · by_cases c3 : (n : Int) ≤ at_
        · exact .inr (.inr (.inl ⟨c1, c2, c3⟩))
        · exact .inr (.inr (.inr ⟨c1, at_.toNat, by omega, by omega⟩))
  · have f0 : (20 : Int) < (n : Int) := by omega
    clear hr hn hH hK h1 hhb hh32
    go_enter Tryd.func8, Tryd.ntmps8
    go_wp2_with fail
    have hHeld : True := trivial
    refine wp_region_held (S := fun u => True) (by kernel_rfl) ?_
    change wpAnyH _ _ _ _ _ _ _ _ (World.drew _)
    refine wpAnyH_take (i := 0) (oi := ({ dst := some 15, op := Op.move (Operand.tmp 0), type := 22, pos := "law.go:95", after := #[], guard := none } : Oper)) (v := .slice A n c) rfl (by kernel_rfl) (by kernel_rfl) (by kernel_rfl) (fun _ _ _ h => h) (Or.inl ⟨by rfl, fun w hSw => by go_simp⟩) hHeld ?_
    simp only [Act.put, List.setIfInBounds_toArray, List.set_cons_zero, List.set_cons_succ]
    refine wpAnyH_take (i := 1) (oi := ({ dst := some 16, op := Op.call { callee := Callee.builtin Builtin.len, args := #[Operand.tmp 15], argTypes := #[22] }, type := 3, pos := "law.go:95", after := #[{ on := 0, ground := Ground.data }], guard := none } : Oper)) (v := .int .i64 (n : Int)) rfl (by kernel_rfl) (by kernel_rfl) (by kernel_rfl) (fun _ _ _ h => h) (Or.inl ⟨by rfl, fun w hSw => by go_simp⟩) hHeld ?_
    simp only [Act.put, List.setIfInBounds_toArray, List.set_cons_zero, List.set_cons_succ]
    refine wpAnyH_take (i := 2) (oi := ({ dst := some 17, op := Op.binOp BinOp.gtr 3 (Operand.tmp 16) (Operand.const (Value.int IntKind.i64 20)) 3, type := 4, pos := "law.go:95", after := #[{ on := 1, ground := Ground.data }], guard := none } : Oper)) (v := .bool true) rfl (by kernel_rfl) (by kernel_rfl) (by kernel_rfl) (fun _ _ _ h => h) (Or.inl ⟨by rfl, fun w hSw => by go_simp⟩) hHeld ?_
    simp only [Act.put, List.setIfInBounds_toArray, List.set_cons_zero, List.set_cons_succ]
    refine wpAnyH_take (i := 3) (oi := ({ dst := some 18, op := Op.move (Operand.tmp 17), type := 4, pos := "law.go:95", after := #[{ on := 2, ground := Ground.data }], guard := none } : Oper)) (v := .bool true) rfl (by kernel_rfl) (by kernel_rfl) (by kernel_rfl) (fun _ _ _ h => h) (Or.inl ⟨by rfl, fun w hSw => by go_simp⟩) hHeld ?_
    simp only [Act.put, List.setIfInBounds_toArray, List.set_cons_zero, List.set_cons_succ]
    refine wpAnyH_take (i := 4) (oi := ({ dst := some 19, op := Op.move (Operand.tmp 1), type := 3, pos := "law.go:95", after := #[{ on := 3, ground := Ground.guard }], guard := some (3, false) } : Oper)) (v := undef) rfl (by kernel_rfl) (by kernel_rfl) (by kernel_rfl) (fun _ _ _ h => h) (Or.inr ⟨by rfl, rfl⟩) hHeld ?_
    simp only [Act.put, List.setIfInBounds_toArray, List.set_cons_zero, List.set_cons_succ]
    refine wpAnyH_take (i := 5) (oi := ({ dst := some 20, op := Op.binOp BinOp.lss 3 (Operand.tmp 19) (Operand.const (Value.int IntKind.i64 0)) 3, type := 4, pos := "law.go:95", after := #[{ on := 4, ground := Ground.data }, { on := 3, ground := Ground.guard }], guard := some (3, false) } : Oper)) (v := undef) rfl (by kernel_rfl) (by kernel_rfl) (by kernel_rfl) (fun _ _ _ h => h) (Or.inr ⟨by rfl, rfl⟩) hHeld ?_
    simp only [Act.put, List.setIfInBounds_toArray, List.set_cons_zero, List.set_cons_succ]
    refine wpAnyH_take (i := 6) (oi := ({ dst := some 21, op := Op.pick (Operand.tmp 18) (Operand.const (Value.bool true)) (Operand.tmp 20), type := 4, pos := "law.go:95", after := #[{ on := 3, ground := Ground.data }, { on := 5, ground := Ground.data }], guard := none } : Oper)) (v := .bool true) rfl (by kernel_rfl) (by kernel_rfl) (by kernel_rfl) (fun _ _ _ h => h) (Or.inl ⟨by rfl, fun w hSw => by go_simp⟩) hHeld ?_
    simp only [Act.put, List.setIfInBounds_toArray, List.set_cons_zero, List.set_cons_succ]
    refine wpAnyH_take (i := 7) (oi := ({ dst := some 22, op := Op.move (Operand.tmp 21), type := 4, pos := "law.go:95", after := #[{ on := 6, ground := Ground.data }, { on := 3, ground := Ground.chain }], guard := none } : Oper)) (v := .bool true) rfl (by kernel_rfl) (by kernel_rfl) (by kernel_rfl) (fun _ _ _ h => h) (Or.inl ⟨by rfl, fun w hSw => by go_simp⟩) hHeld ?_
    simp only [Act.put, List.setIfInBounds_toArray, List.set_cons_zero, List.set_cons_succ]
    refine wpAnyH_take (i := 8) (oi := ({ dst := some 23, op := Op.move (Operand.tmp 1), type := 3, pos := "law.go:95", after := #[{ on := 7, ground := Ground.guard }], guard := some (7, false) } : Oper)) (v := undef) rfl (by kernel_rfl) (by kernel_rfl) (by kernel_rfl) (fun _ _ _ h => h) (Or.inr ⟨by rfl, rfl⟩) hHeld ?_
    simp only [Act.put, List.setIfInBounds_toArray, List.set_cons_zero, List.set_cons_succ]
    refine wpAnyH_take (i := 9) (oi := ({ dst := some 24, op := Op.move (Operand.tmp 0), type := 22, pos := "law.go:95", after := #[{ on := 7, ground := Ground.guard }], guard := some (7, false) } : Oper)) (v := undef) rfl (by kernel_rfl) (by kernel_rfl) (by kernel_rfl) (fun _ _ _ h => h) (Or.inr ⟨by rfl, rfl⟩) hHeld ?_
    simp only [Act.put, List.setIfInBounds_toArray, List.set_cons_zero, List.set_cons_succ]
    refine wpAnyH_take (i := 10) (oi := ({ dst := some 25, op := Op.call { callee := Callee.builtin Builtin.len, args := #[Operand.tmp 24], argTypes := #[22] }, type := 3, pos := "law.go:95", after := #[{ on := 9, ground := Ground.data }, { on := 7, ground := Ground.guard }], guard := some (7, false) } : Oper)) (v := undef) rfl (by kernel_rfl) (by kernel_rfl) (by kernel_rfl) (fun _ _ _ h => h) (Or.inr ⟨by rfl, rfl⟩) hHeld ?_
    simp only [Act.put, List.setIfInBounds_toArray, List.set_cons_zero, List.set_cons_succ]
    refine wpAnyH_take (i := 11) (oi := ({ dst := some 26, op := Op.binOp BinOp.geq 3 (Operand.tmp 23) (Operand.tmp 25) 3, type := 4, pos := "law.go:95", after := #[{ on := 8, ground := Ground.data }, { on := 10, ground := Ground.data }, { on := 7, ground := Ground.guard }], guard := some (7, false) } : Oper)) (v := undef) rfl (by kernel_rfl) (by kernel_rfl) (by kernel_rfl) (fun _ _ _ h => h) (Or.inr ⟨by rfl, rfl⟩) hHeld ?_
    simp only [Act.put, List.setIfInBounds_toArray, List.set_cons_zero, List.set_cons_succ]
    refine wpAnyH_take (i := 12) (oi := ({ dst := some 27, op := Op.pick (Operand.tmp 22) (Operand.const (Value.bool true)) (Operand.tmp 26), type := 4, pos := "law.go:95", after := #[{ on := 7, ground := Ground.data }, { on := 11, ground := Ground.data }], guard := none } : Oper)) (v := .bool true) rfl (by kernel_rfl) (by kernel_rfl) (by kernel_rfl) (fun _ _ _ h => h) (Or.inl ⟨by rfl, fun w hSw => by go_simp⟩) hHeld ?_
    simp only [Act.put, List.setIfInBounds_toArray, List.set_cons_zero, List.set_cons_succ]
    refine wpAnyH_take (i := 13) (oi := ({ dst := some 28, op := Op.move (Operand.tmp 27), type := 4, pos := "law.go:95", after := #[{ on := 12, ground := Ground.data }, { on := 7, ground := Ground.chain }], guard := none } : Oper)) (v := .bool true) rfl (by kernel_rfl) (by kernel_rfl) (by kernel_rfl) (fun _ _ _ h => h) (Or.inl ⟨by rfl, fun w hSw => by go_simp⟩) hHeld ?_
    simp only [Act.put, List.setIfInBounds_toArray, List.set_cons_zero, List.set_cons_succ]
    refine wpAnyH_take (i := 14) (oi := ({ dst := some 29, op := Op.move (Operand.tmp 0), type := 22, pos := "law.go:95", after := #[{ on := 13, ground := Ground.guard }], guard := some (13, false) } : Oper)) (v := undef) rfl (by kernel_rfl) (by kernel_rfl) (by kernel_rfl) (fun _ _ _ h => h) (Or.inr ⟨by rfl, rfl⟩) hHeld ?_
    simp only [Act.put, List.setIfInBounds_toArray, List.set_cons_zero, List.set_cons_succ]
    refine wpAnyH_take (i := 15) (oi := ({ dst := some 30, op := Op.move (Operand.tmp 1), type := 3, pos := "law.go:95", after := #[{ on := 13, ground := Ground.guard }], guard := some (13, false) } : Oper)) (v := undef) rfl (by kernel_rfl) (by kernel_rfl) (by kernel_rfl) (fun _ _ _ h => h) (Or.inr ⟨by rfl, rfl⟩) hHeld ?_
    simp only [Act.put, List.setIfInBounds_toArray, List.set_cons_zero, List.set_cons_succ]
    refine wpAnyH_take (i := 16) (oi := ({ dst := some 31, op := Op.indexAddr 22 (Operand.tmp 29) (Operand.tmp 30), type := 0, pos := "law.go:95", after := #[{ on := 14, ground := Ground.data }, { on := 15, ground := Ground.data }, { on := 13, ground := Ground.guard }], guard := some (13, false) } : Oper)) (v := undef) rfl (by kernel_rfl) (by kernel_rfl) (by kernel_rfl) (fun _ _ _ h => h) (Or.inr ⟨by rfl, rfl⟩) hHeld ?_
    simp only [Act.put, List.setIfInBounds_toArray, List.set_cons_zero, List.set_cons_succ]
    refine wpAnyH_take (i := 17) (oi := ({ dst := some 32, op := Op.load 25 (Operand.tmp 31), type := 25, pos := "law.go:95", after := #[{ on := 16, ground := Ground.data }, { on := 13, ground := Ground.guard }], guard := some (13, false) } : Oper)) (v := undef) rfl (by kernel_rfl) (by kernel_rfl) (by kernel_rfl) (fun _ _ _ h => h) (Or.inr ⟨by rfl, rfl⟩) hHeld ?_
    simp only [Act.put, List.setIfInBounds_toArray, List.set_cons_zero, List.set_cons_succ]
    refine wpAnyH_take (i := 18) (oi := ({ dst := some 33, op := Op.load 25 (Operand.tmp 5), type := 25, pos := "law.go:95", after := #[{ on := 13, ground := Ground.guard }], guard := some (13, false) } : Oper)) (v := undef) rfl (by kernel_rfl) (by kernel_rfl) (by kernel_rfl) (fun _ _ _ h => h) (Or.inr ⟨by rfl, rfl⟩) hHeld ?_
    simp only [Act.put, List.setIfInBounds_toArray, List.set_cons_zero, List.set_cons_succ]
    refine wpAnyH_take (i := 19) (oi := ({ dst := some 34, op := Op.binOp BinOp.eql 25 (Operand.tmp 32) (Operand.tmp 33) 25, type := 4, pos := "law.go:95", after := #[{ on := 17, ground := Ground.data }, { on := 18, ground := Ground.data }, { on := 13, ground := Ground.guard }], guard := some (13, false) } : Oper)) (v := undef) rfl (by kernel_rfl) (by kernel_rfl) (by kernel_rfl) (fun _ _ _ h => h) (Or.inr ⟨by rfl, rfl⟩) hHeld ?_
    simp only [Act.put, List.setIfInBounds_toArray, List.set_cons_zero, List.set_cons_succ]
    refine wpAnyH_take (i := 20) (oi := ({ dst := some 35, op := Op.pick (Operand.tmp 28) (Operand.const (Value.bool true)) (Operand.tmp 34), type := 4, pos := "law.go:95", after := #[{ on := 13, ground := Ground.data }, { on := 19, ground := Ground.data }], guard := none } : Oper)) (v := .bool true) rfl (by kernel_rfl) (by kernel_rfl) (by kernel_rfl) (fun _ _ _ h => h) (Or.inl ⟨by rfl, fun w hSw => by go_simp⟩) hHeld ?_
    simp only [Act.put, List.setIfInBounds_toArray, List.set_cons_zero, List.set_cons_succ]
    refine wpAnyH_done (by kernel_rfl) ?_ _
    go_wp2_with fail
    refine (HAW.out _ (below_drew HB0.out)).mono ?_
    rintro e w1 ⟨rfl, hb⟩
    have HB1 := Lib.hid ((below_drew HB0.out).trans (Below.mono hb (below_drew HB0.out).size))
    clear hb
    go_wp2_with fail
    go_ret
    exact ⟨rfl, HB1.out⟩
  · have f0 : ¬ (20 : Int) < (n : Int) := by omega
    have f1 : at_ < 0 := h1.2
    clear hr hn hH hK h1 hhb hh32
    go_enter Tryd.func8, Tryd.ntmps8
    go_wp2_with fail
    have hHeld : True := trivial
    refine wp_region_held (S := fun u => True) (by kernel_rfl) ?_
    change wpAnyH _ _ _ _ _ _ _ _ (World.drew _)
    refine wpAnyH_take (i := 0) (oi := ({ dst := some 15, op := Op.move (Operand.tmp 0), type := 22, pos := "law.go:95", after := #[], guard := none } : Oper)) (v := .slice A n c) rfl (by kernel_rfl) (by kernel_rfl) (by kernel_rfl) (fun _ _ _ h => h) (Or.inl ⟨by rfl, fun w hSw => by go_simp⟩) hHeld ?_
    simp only [Act.put, List.setIfInBounds_toArray, List.set_cons_zero, List.set_cons_succ]
    refine wpAnyH_take (i := 1) (oi := ({ dst := some 16, op := Op.call { callee := Callee.builtin Builtin.len, args := #[Operand.tmp 15], argTypes := #[22] }, type := 3, pos := "law.go:95", after := #[{ on := 0, ground := Ground.data }], guard := none } : Oper)) (v := .int .i64 (n : Int)) rfl (by kernel_rfl) (by kernel_rfl) (by kernel_rfl) (fun _ _ _ h => h) (Or.inl ⟨by rfl, fun w hSw => by go_simp⟩) hHeld ?_
    simp only [Act.put, List.setIfInBounds_toArray, List.set_cons_zero, List.set_cons_succ]
    refine wpAnyH_take (i := 2) (oi := ({ dst := some 17, op := Op.binOp BinOp.gtr 3 (Operand.tmp 16) (Operand.const (Value.int IntKind.i64 20)) 3, type := 4, pos := "law.go:95", after := #[{ on := 1, ground := Ground.data }], guard := none } : Oper)) (v := .bool false) rfl (by kernel_rfl) (by kernel_rfl) (by kernel_rfl) (fun _ _ _ h => h) (Or.inl ⟨by rfl, fun w hSw => by go_simp⟩) hHeld ?_
    simp only [Act.put, List.setIfInBounds_toArray, List.set_cons_zero, List.set_cons_succ]
    refine wpAnyH_take (i := 3) (oi := ({ dst := some 18, op := Op.move (Operand.tmp 17), type := 4, pos := "law.go:95", after := #[{ on := 2, ground := Ground.data }], guard := none } : Oper)) (v := .bool false) rfl (by kernel_rfl) (by kernel_rfl) (by kernel_rfl) (fun _ _ _ h => h) (Or.inl ⟨by rfl, fun w hSw => by go_simp⟩) hHeld ?_
    simp only [Act.put, List.setIfInBounds_toArray, List.set_cons_zero, List.set_cons_succ]
    refine wpAnyH_take (i := 4) (oi := ({ dst := some 19, op := Op.move (Operand.tmp 1), type := 3, pos := "law.go:95", after := #[{ on := 3, ground := Ground.guard }], guard := some (3, false) } : Oper)) (v := .int .i64 at_) rfl (by kernel_rfl) (by kernel_rfl) (by kernel_rfl) (fun _ _ _ h => h) (Or.inl ⟨by rfl, fun w hSw => by go_simp⟩) hHeld ?_
    simp only [Act.put, List.setIfInBounds_toArray, List.set_cons_zero, List.set_cons_succ]
    refine wpAnyH_take (i := 5) (oi := ({ dst := some 20, op := Op.binOp BinOp.lss 3 (Operand.tmp 19) (Operand.const (Value.int IntKind.i64 0)) 3, type := 4, pos := "law.go:95", after := #[{ on := 4, ground := Ground.data }, { on := 3, ground := Ground.guard }], guard := some (3, false) } : Oper)) (v := .bool true) rfl (by kernel_rfl) (by kernel_rfl) (by kernel_rfl) (fun _ _ _ h => h) (Or.inl ⟨by rfl, fun w hSw => by go_simp⟩) hHeld ?_
    simp only [Act.put, List.setIfInBounds_toArray, List.set_cons_zero, List.set_cons_succ]
    refine wpAnyH_take (i := 6) (oi := ({ dst := some 21, op := Op.pick (Operand.tmp 18) (Operand.const (Value.bool true)) (Operand.tmp 20), type := 4, pos := "law.go:95", after := #[{ on := 3, ground := Ground.data }, { on := 5, ground := Ground.data }], guard := none } : Oper)) (v := .bool true) rfl (by kernel_rfl) (by kernel_rfl) (by kernel_rfl) (fun _ _ _ h => h) (Or.inl ⟨by rfl, fun w hSw => by go_simp⟩) hHeld ?_
    simp only [Act.put, List.setIfInBounds_toArray, List.set_cons_zero, List.set_cons_succ]
    refine wpAnyH_take (i := 7) (oi := ({ dst := some 22, op := Op.move (Operand.tmp 21), type := 4, pos := "law.go:95", after := #[{ on := 6, ground := Ground.data }, { on := 3, ground := Ground.chain }], guard := none } : Oper)) (v := .bool true) rfl (by kernel_rfl) (by kernel_rfl) (by kernel_rfl) (fun _ _ _ h => h) (Or.inl ⟨by rfl, fun w hSw => by go_simp⟩) hHeld ?_
    simp only [Act.put, List.setIfInBounds_toArray, List.set_cons_zero, List.set_cons_succ]
    refine wpAnyH_take (i := 8) (oi := ({ dst := some 23, op := Op.move (Operand.tmp 1), type := 3, pos := "law.go:95", after := #[{ on := 7, ground := Ground.guard }], guard := some (7, false) } : Oper)) (v := undef) rfl (by kernel_rfl) (by kernel_rfl) (by kernel_rfl) (fun _ _ _ h => h) (Or.inr ⟨by rfl, rfl⟩) hHeld ?_
    simp only [Act.put, List.setIfInBounds_toArray, List.set_cons_zero, List.set_cons_succ]
    refine wpAnyH_take (i := 9) (oi := ({ dst := some 24, op := Op.move (Operand.tmp 0), type := 22, pos := "law.go:95", after := #[{ on := 7, ground := Ground.guard }], guard := some (7, false) } : Oper)) (v := undef) rfl (by kernel_rfl) (by kernel_rfl) (by kernel_rfl) (fun _ _ _ h => h) (Or.inr ⟨by rfl, rfl⟩) hHeld ?_
    simp only [Act.put, List.setIfInBounds_toArray, List.set_cons_zero, List.set_cons_succ]
    refine wpAnyH_take (i := 10) (oi := ({ dst := some 25, op := Op.call { callee := Callee.builtin Builtin.len, args := #[Operand.tmp 24], argTypes := #[22] }, type := 3, pos := "law.go:95", after := #[{ on := 9, ground := Ground.data }, { on := 7, ground := Ground.guard }], guard := some (7, false) } : Oper)) (v := undef) rfl (by kernel_rfl) (by kernel_rfl) (by kernel_rfl) (fun _ _ _ h => h) (Or.inr ⟨by rfl, rfl⟩) hHeld ?_
    simp only [Act.put, List.setIfInBounds_toArray, List.set_cons_zero, List.set_cons_succ]
    refine wpAnyH_take (i := 11) (oi := ({ dst := some 26, op := Op.binOp BinOp.geq 3 (Operand.tmp 23) (Operand.tmp 25) 3, type := 4, pos := "law.go:95", after := #[{ on := 8, ground := Ground.data }, { on := 10, ground := Ground.data }, { on := 7, ground := Ground.guard }], guard := some (7, false) } : Oper)) (v := undef) rfl (by kernel_rfl) (by kernel_rfl) (by kernel_rfl) (fun _ _ _ h => h) (Or.inr ⟨by rfl, rfl⟩) hHeld ?_
    simp only [Act.put, List.setIfInBounds_toArray, List.set_cons_zero, List.set_cons_succ]
    refine wpAnyH_take (i := 12) (oi := ({ dst := some 27, op := Op.pick (Operand.tmp 22) (Operand.const (Value.bool true)) (Operand.tmp 26), type := 4, pos := "law.go:95", after := #[{ on := 7, ground := Ground.data }, { on := 11, ground := Ground.data }], guard := none } : Oper)) (v := .bool true) rfl (by kernel_rfl) (by kernel_rfl) (by kernel_rfl) (fun _ _ _ h => h) (Or.inl ⟨by rfl, fun w hSw => by go_simp⟩) hHeld ?_
    simp only [Act.put, List.setIfInBounds_toArray, List.set_cons_zero, List.set_cons_succ]
    refine wpAnyH_take (i := 13) (oi := ({ dst := some 28, op := Op.move (Operand.tmp 27), type := 4, pos := "law.go:95", after := #[{ on := 12, ground := Ground.data }, { on := 7, ground := Ground.chain }], guard := none } : Oper)) (v := .bool true) rfl (by kernel_rfl) (by kernel_rfl) (by kernel_rfl) (fun _ _ _ h => h) (Or.inl ⟨by rfl, fun w hSw => by go_simp⟩) hHeld ?_
    simp only [Act.put, List.setIfInBounds_toArray, List.set_cons_zero, List.set_cons_succ]
    refine wpAnyH_take (i := 14) (oi := ({ dst := some 29, op := Op.move (Operand.tmp 0), type := 22, pos := "law.go:95", after := #[{ on := 13, ground := Ground.guard }], guard := some (13, false) } : Oper)) (v := undef) rfl (by kernel_rfl) (by kernel_rfl) (by kernel_rfl) (fun _ _ _ h => h) (Or.inr ⟨by rfl, rfl⟩) hHeld ?_
    simp only [Act.put, List.setIfInBounds_toArray, List.set_cons_zero, List.set_cons_succ]
    refine wpAnyH_take (i := 15) (oi := ({ dst := some 30, op := Op.move (Operand.tmp 1), type := 3, pos := "law.go:95", after := #[{ on := 13, ground := Ground.guard }], guard := some (13, false) } : Oper)) (v := undef) rfl (by kernel_rfl) (by kernel_rfl) (by kernel_rfl) (fun _ _ _ h => h) (Or.inr ⟨by rfl, rfl⟩) hHeld ?_
    simp only [Act.put, List.setIfInBounds_toArray, List.set_cons_zero, List.set_cons_succ]
    refine wpAnyH_take (i := 16) (oi := ({ dst := some 31, op := Op.indexAddr 22 (Operand.tmp 29) (Operand.tmp 30), type := 0, pos := "law.go:95", after := #[{ on := 14, ground := Ground.data }, { on := 15, ground := Ground.data }, { on := 13, ground := Ground.guard }], guard := some (13, false) } : Oper)) (v := undef) rfl (by kernel_rfl) (by kernel_rfl) (by kernel_rfl) (fun _ _ _ h => h) (Or.inr ⟨by rfl, rfl⟩) hHeld ?_
    simp only [Act.put, List.setIfInBounds_toArray, List.set_cons_zero, List.set_cons_succ]
    refine wpAnyH_take (i := 17) (oi := ({ dst := some 32, op := Op.load 25 (Operand.tmp 31), type := 25, pos := "law.go:95", after := #[{ on := 16, ground := Ground.data }, { on := 13, ground := Ground.guard }], guard := some (13, false) } : Oper)) (v := undef) rfl (by kernel_rfl) (by kernel_rfl) (by kernel_rfl) (fun _ _ _ h => h) (Or.inr ⟨by rfl, rfl⟩) hHeld ?_
    simp only [Act.put, List.setIfInBounds_toArray, List.set_cons_zero, List.set_cons_succ]
    refine wpAnyH_take (i := 18) (oi := ({ dst := some 33, op := Op.load 25 (Operand.tmp 5), type := 25, pos := "law.go:95", after := #[{ on := 13, ground := Ground.guard }], guard := some (13, false) } : Oper)) (v := undef) rfl (by kernel_rfl) (by kernel_rfl) (by kernel_rfl) (fun _ _ _ h => h) (Or.inr ⟨by rfl, rfl⟩) hHeld ?_
    simp only [Act.put, List.setIfInBounds_toArray, List.set_cons_zero, List.set_cons_succ]
    refine wpAnyH_take (i := 19) (oi := ({ dst := some 34, op := Op.binOp BinOp.eql 25 (Operand.tmp 32) (Operand.tmp 33) 25, type := 4, pos := "law.go:95", after := #[{ on := 17, ground := Ground.data }, { on := 18, ground := Ground.data }, { on := 13, ground := Ground.guard }], guard := some (13, false) } : Oper)) (v := undef) rfl (by kernel_rfl) (by kernel_rfl) (by kernel_rfl) (fun _ _ _ h => h) (Or.inr ⟨by rfl, rfl⟩) hHeld ?_
    simp only [Act.put, List.setIfInBounds_toArray, List.set_cons_zero, List.set_cons_succ]
    refine wpAnyH_take (i := 20) (oi := ({ dst := some 35, op := Op.pick (Operand.tmp 28) (Operand.const (Value.bool true)) (Operand.tmp 34), type := 4, pos := "law.go:95", after := #[{ on := 13, ground := Ground.data }, { on := 19, ground := Ground.data }], guard := none } : Oper)) (v := .bool true) rfl (by kernel_rfl) (by kernel_rfl) (by kernel_rfl) (fun _ _ _ h => h) (Or.inl ⟨by rfl, fun w hSw => by go_simp⟩) hHeld ?_
    simp only [Act.put, List.setIfInBounds_toArray, List.set_cons_zero, List.set_cons_succ]
    refine wpAnyH_done (by kernel_rfl) ?_ _
    go_wp2_with fail
    refine (HAW.out _ (below_drew HB0.out)).mono ?_
    rintro e w1 ⟨rfl, hb⟩
    have HB1 := Lib.hid ((below_drew HB0.out).trans (Below.mono hb (below_drew HB0.out).size))
    clear hb
    go_wp2_with fail
    go_ret
    exact ⟨rfl, HB1.out⟩
  · have f0 : ¬ (20 : Int) < (n : Int) := by omega
    have f1 : ¬ at_ < 0 := h1.2.1
    have f2 : (n : Int) ≤ at_ := h1.2.2
    clear hr hn hH hK h1 hhb hh32
    go_enter Tryd.func8, Tryd.ntmps8
    go_wp2_with fail
    have hHeld : True := trivial
    refine wp_region_held (S := fun u => True) (by kernel_rfl) ?_
    change wpAnyH _ _ _ _ _ _ _ _ (World.drew _)
    refine wpAnyH_take (i := 0) (oi := ({ dst := some 15, op := Op.move (Operand.tmp 0), type := 22, pos := "law.go:95", after := #[], guard := none } : Oper)) (v := .slice A n c) rfl (by kernel_rfl) (by kernel_rfl) (by kernel_rfl) (fun _ _ _ h => h) (Or.inl ⟨by rfl, fun w hSw => by go_simp⟩) hHeld ?_
    simp only [Act.put, List.setIfInBounds_toArray, List.set_cons_zero, List.set_cons_succ]
    refine wpAnyH_take (i := 1) (oi := ({ dst := some 16, op := Op.call { callee := Callee.builtin Builtin.len, args := #[Operand.tmp 15], argTypes := #[22] }, type := 3, pos := "law.go:95", after := #[{ on := 0, ground := Ground.data }], guard := none } : Oper)) (v := .int .i64 (n : Int)) rfl (by kernel_rfl) (by kernel_rfl) (by kernel_rfl) (fun _ _ _ h => h) (Or.inl ⟨by rfl, fun w hSw => by go_simp⟩) hHeld ?_
    simp only [Act.put, List.setIfInBounds_toArray, List.set_cons_zero, List.set_cons_succ]
    refine wpAnyH_take (i := 2) (oi := ({ dst := some 17, op := Op.binOp BinOp.gtr 3 (Operand.tmp 16) (Operand.const (Value.int IntKind.i64 20)) 3, type := 4, pos := "law.go:95", after := #[{ on := 1, ground := Ground.data }], guard := none } : Oper)) (v := .bool false) rfl (by kernel_rfl) (by kernel_rfl) (by kernel_rfl) (fun _ _ _ h => h) (Or.inl ⟨by rfl, fun w hSw => by go_simp⟩) hHeld ?_
    simp only [Act.put, List.setIfInBounds_toArray, List.set_cons_zero, List.set_cons_succ]
    refine wpAnyH_take (i := 3) (oi := ({ dst := some 18, op := Op.move (Operand.tmp 17), type := 4, pos := "law.go:95", after := #[{ on := 2, ground := Ground.data }], guard := none } : Oper)) (v := .bool false) rfl (by kernel_rfl) (by kernel_rfl) (by kernel_rfl) (fun _ _ _ h => h) (Or.inl ⟨by rfl, fun w hSw => by go_simp⟩) hHeld ?_
    simp only [Act.put, List.setIfInBounds_toArray, List.set_cons_zero, List.set_cons_succ]
    refine wpAnyH_take (i := 4) (oi := ({ dst := some 19, op := Op.move (Operand.tmp 1), type := 3, pos := "law.go:95", after := #[{ on := 3, ground := Ground.guard }], guard := some (3, false) } : Oper)) (v := .int .i64 at_) rfl (by kernel_rfl) (by kernel_rfl) (by kernel_rfl) (fun _ _ _ h => h) (Or.inl ⟨by rfl, fun w hSw => by go_simp⟩) hHeld ?_
    simp only [Act.put, List.setIfInBounds_toArray, List.set_cons_zero, List.set_cons_succ]
    refine wpAnyH_take (i := 5) (oi := ({ dst := some 20, op := Op.binOp BinOp.lss 3 (Operand.tmp 19) (Operand.const (Value.int IntKind.i64 0)) 3, type := 4, pos := "law.go:95", after := #[{ on := 4, ground := Ground.data }, { on := 3, ground := Ground.guard }], guard := some (3, false) } : Oper)) (v := .bool false) rfl (by kernel_rfl) (by kernel_rfl) (by kernel_rfl) (fun _ _ _ h => h) (Or.inl ⟨by rfl, fun w hSw => by go_simp⟩) hHeld ?_
    simp only [Act.put, List.setIfInBounds_toArray, List.set_cons_zero, List.set_cons_succ]
    refine wpAnyH_take (i := 6) (oi := ({ dst := some 21, op := Op.pick (Operand.tmp 18) (Operand.const (Value.bool true)) (Operand.tmp 20), type := 4, pos := "law.go:95", after := #[{ on := 3, ground := Ground.data }, { on := 5, ground := Ground.data }], guard := none } : Oper)) (v := .bool false) rfl (by kernel_rfl) (by kernel_rfl) (by kernel_rfl) (fun _ _ _ h => h) (Or.inl ⟨by rfl, fun w hSw => by go_simp⟩) hHeld ?_
    simp only [Act.put, List.setIfInBounds_toArray, List.set_cons_zero, List.set_cons_succ]
    refine wpAnyH_take (i := 7) (oi := ({ dst := some 22, op := Op.move (Operand.tmp 21), type := 4, pos := "law.go:95", after := #[{ on := 6, ground := Ground.data }, { on := 3, ground := Ground.chain }], guard := none } : Oper)) (v := .bool false) rfl (by kernel_rfl) (by kernel_rfl) (by kernel_rfl) (fun _ _ _ h => h) (Or.inl ⟨by rfl, fun w hSw => by go_simp⟩) hHeld ?_
    simp only [Act.put, List.setIfInBounds_toArray, List.set_cons_zero, List.set_cons_succ]
    refine wpAnyH_take (i := 8) (oi := ({ dst := some 23, op := Op.move (Operand.tmp 1), type := 3, pos := "law.go:95", after := #[{ on := 7, ground := Ground.guard }], guard := some (7, false) } : Oper)) (v := .int .i64 at_) rfl (by kernel_rfl) (by kernel_rfl) (by kernel_rfl) (fun _ _ _ h => h) (Or.inl ⟨by rfl, fun w hSw => by go_simp⟩) hHeld ?_
    simp only [Act.put, List.setIfInBounds_toArray, List.set_cons_zero, List.set_cons_succ]
    refine wpAnyH_take (i := 9) (oi := ({ dst := some 24, op := Op.move (Operand.tmp 0), type := 22, pos := "law.go:95", after := #[{ on := 7, ground := Ground.guard }], guard := some (7, false) } : Oper)) (v := .slice A n c) rfl (by kernel_rfl) (by kernel_rfl) (by kernel_rfl) (fun _ _ _ h => h) (Or.inl ⟨by rfl, fun w hSw => by go_simp⟩) hHeld ?_
    simp only [Act.put, List.setIfInBounds_toArray, List.set_cons_zero, List.set_cons_succ]
    refine wpAnyH_take (i := 10) (oi := ({ dst := some 25, op := Op.call { callee := Callee.builtin Builtin.len, args := #[Operand.tmp 24], argTypes := #[22] }, type := 3, pos := "law.go:95", after := #[{ on := 9, ground := Ground.data }, { on := 7, ground := Ground.guard }], guard := some (7, false) } : Oper)) (v := .int .i64 (n : Int)) rfl (by kernel_rfl) (by kernel_rfl) (by kernel_rfl) (fun _ _ _ h => h) (Or.inl ⟨by rfl, fun w hSw => by go_simp⟩) hHeld ?_
    simp only [Act.put, List.setIfInBounds_toArray, List.set_cons_zero, List.set_cons_succ]
    refine wpAnyH_take (i := 11) (oi := ({ dst := some 26, op := Op.binOp BinOp.geq 3 (Operand.tmp 23) (Operand.tmp 25) 3, type := 4, pos := "law.go:95", after := #[{ on := 8, ground := Ground.data }, { on := 10, ground := Ground.data }, { on := 7, ground := Ground.guard }], guard := some (7, false) } : Oper)) (v := .bool true) rfl (by kernel_rfl) (by kernel_rfl) (by kernel_rfl) (fun _ _ _ h => h) (Or.inl ⟨by rfl, fun w hSw => by go_simp⟩) hHeld ?_
    simp only [Act.put, List.setIfInBounds_toArray, List.set_cons_zero, List.set_cons_succ]
    refine wpAnyH_take (i := 12) (oi := ({ dst := some 27, op := Op.pick (Operand.tmp 22) (Operand.const (Value.bool true)) (Operand.tmp 26), type := 4, pos := "law.go:95", after := #[{ on := 7, ground := Ground.data }, { on := 11, ground := Ground.data }], guard := none } : Oper)) (v := .bool true) rfl (by kernel_rfl) (by kernel_rfl) (by kernel_rfl) (fun _ _ _ h => h) (Or.inl ⟨by rfl, fun w hSw => by go_simp⟩) hHeld ?_
    simp only [Act.put, List.setIfInBounds_toArray, List.set_cons_zero, List.set_cons_succ]
    refine wpAnyH_take (i := 13) (oi := ({ dst := some 28, op := Op.move (Operand.tmp 27), type := 4, pos := "law.go:95", after := #[{ on := 12, ground := Ground.data }, { on := 7, ground := Ground.chain }], guard := none } : Oper)) (v := .bool true) rfl (by kernel_rfl) (by kernel_rfl) (by kernel_rfl) (fun _ _ _ h => h) (Or.inl ⟨by rfl, fun w hSw => by go_simp⟩) hHeld ?_
    simp only [Act.put, List.setIfInBounds_toArray, List.set_cons_zero, List.set_cons_succ]
    refine wpAnyH_take (i := 14) (oi := ({ dst := some 29, op := Op.move (Operand.tmp 0), type := 22, pos := "law.go:95", after := #[{ on := 13, ground := Ground.guard }], guard := some (13, false) } : Oper)) (v := undef) rfl (by kernel_rfl) (by kernel_rfl) (by kernel_rfl) (fun _ _ _ h => h) (Or.inr ⟨by rfl, rfl⟩) hHeld ?_
    simp only [Act.put, List.setIfInBounds_toArray, List.set_cons_zero, List.set_cons_succ]
    refine wpAnyH_take (i := 15) (oi := ({ dst := some 30, op := Op.move (Operand.tmp 1), type := 3, pos := "law.go:95", after := #[{ on := 13, ground := Ground.guard }], guard := some (13, false) } : Oper)) (v := undef) rfl (by kernel_rfl) (by kernel_rfl) (by kernel_rfl) (fun _ _ _ h => h) (Or.inr ⟨by rfl, rfl⟩) hHeld ?_
    simp only [Act.put, List.setIfInBounds_toArray, List.set_cons_zero, List.set_cons_succ]
    refine wpAnyH_take (i := 16) (oi := ({ dst := some 31, op := Op.indexAddr 22 (Operand.tmp 29) (Operand.tmp 30), type := 0, pos := "law.go:95", after := #[{ on := 14, ground := Ground.data }, { on := 15, ground := Ground.data }, { on := 13, ground := Ground.guard }], guard := some (13, false) } : Oper)) (v := undef) rfl (by kernel_rfl) (by kernel_rfl) (by kernel_rfl) (fun _ _ _ h => h) (Or.inr ⟨by rfl, rfl⟩) hHeld ?_
    simp only [Act.put, List.setIfInBounds_toArray, List.set_cons_zero, List.set_cons_succ]
    refine wpAnyH_take (i := 17) (oi := ({ dst := some 32, op := Op.load 25 (Operand.tmp 31), type := 25, pos := "law.go:95", after := #[{ on := 16, ground := Ground.data }, { on := 13, ground := Ground.guard }], guard := some (13, false) } : Oper)) (v := undef) rfl (by kernel_rfl) (by kernel_rfl) (by kernel_rfl) (fun _ _ _ h => h) (Or.inr ⟨by rfl, rfl⟩) hHeld ?_
    simp only [Act.put, List.setIfInBounds_toArray, List.set_cons_zero, List.set_cons_succ]
    refine wpAnyH_take (i := 18) (oi := ({ dst := some 33, op := Op.load 25 (Operand.tmp 5), type := 25, pos := "law.go:95", after := #[{ on := 13, ground := Ground.guard }], guard := some (13, false) } : Oper)) (v := undef) rfl (by kernel_rfl) (by kernel_rfl) (by kernel_rfl) (fun _ _ _ h => h) (Or.inr ⟨by rfl, rfl⟩) hHeld ?_
    simp only [Act.put, List.setIfInBounds_toArray, List.set_cons_zero, List.set_cons_succ]
    refine wpAnyH_take (i := 19) (oi := ({ dst := some 34, op := Op.binOp BinOp.eql 25 (Operand.tmp 32) (Operand.tmp 33) 25, type := 4, pos := "law.go:95", after := #[{ on := 17, ground := Ground.data }, { on := 18, ground := Ground.data }, { on := 13, ground := Ground.guard }], guard := some (13, false) } : Oper)) (v := undef) rfl (by kernel_rfl) (by kernel_rfl) (by kernel_rfl) (fun _ _ _ h => h) (Or.inr ⟨by rfl, rfl⟩) hHeld ?_
    simp only [Act.put, List.setIfInBounds_toArray, List.set_cons_zero, List.set_cons_succ]
    refine wpAnyH_take (i := 20) (oi := ({ dst := some 35, op := Op.pick (Operand.tmp 28) (Operand.const (Value.bool true)) (Operand.tmp 34), type := 4, pos := "law.go:95", after := #[{ on := 13, ground := Ground.data }, { on := 19, ground := Ground.data }], guard := none } : Oper)) (v := .bool true) rfl (by kernel_rfl) (by kernel_rfl) (by kernel_rfl) (fun _ _ _ h => h) (Or.inl ⟨by rfl, fun w hSw => by go_simp⟩) hHeld ?_
    simp only [Act.put, List.setIfInBounds_toArray, List.set_cons_zero, List.set_cons_succ]
    refine wpAnyH_done (by kernel_rfl) ?_ _
    go_wp2_with fail
    refine (HAW.out _ (below_drew HB0.out)).mono ?_
    rintro e w1 ⟨rfl, hb⟩
    have HB1 := Lib.hid ((below_drew HB0.out).trans (Below.mono hb (below_drew HB0.out).size))
    clear hb
    go_wp2_with fail
    go_ret
    exact ⟨rfl, HB1.out⟩
  · obtain ⟨h20, j, rfl, hj⟩ := h1
    obtain ⟨b, o, rfl, hbl, hrg⟩ := C_hash (by rw [← hn]; exact hr) (by omega)
    obtain ⟨hp, hp32⟩ := hrg j (by omega)
    have f0 : ¬ (20 : Int) < (n : Int) := by omega
    have f1 : ¬ (j : Int) < 0 := by omega
    have f2 : ¬ (n : Int) ≤ (j : Int) := by omega
    have f3 : (0 : Int) ≤ (j : Int) := by omega
    have f5 : ¬ n ≤ j := by omega
    have f6 : j < n := hj
    have f4 : (j : Int) < (n : Int) := by omega
    have q0 := fun u => eqH (rdH xs j) hh hp32 hh32 u
    have hset := set_ne (xs := xs) (j := j) (q := hh) (by omega)
    have hPl : (nums .u8 (rdH xs j)).length = 32 := by rw [nums_len]; exact hp32
    have hi1 : (Tryd.prog.info? 25).map (·.size) = some (nums .u8 (rdH xs j)).length := by rw [hPl]; exact (zero_of_info infoHash).2
    obtain ⟨P, hP⟩ : ∃ P, nums .u8 (rdH xs j) = P := ⟨_, rfl⟩
    rw [hP] at hp q0 hPl hi1
    rw [hHe] at q0
    have hHeld : (w.alloc (.cells H.toArray 25)).drew.rangeAt b (o + j * 32) P ∧ (w.alloc (.cells H.toArray 25)).drew.rangeAt w.heap.size 0 H := ⟨range_below (below_drew HB0.out) hbl hp, HRH.out _ (below_drew (Below.refl _ _))⟩
    by_cases he : (rdH xs j == hh) = true
    · rw [he] at q0
      clear hr hn hH hK h20 hbl hrg hp hp32 hset hPl hP hhb hh32
      go_enter Tryd.func8, Tryd.ntmps8
      go_wp2_with fail
      refine wp_region_held (S := fun u => u.rangeAt b (o + j * 32) P ∧ u.rangeAt w.heap.size 0 H) (by kernel_rfl) ?_
      change wpAnyH _ _ _ _ _ _ _ _ (World.drew _)
      refine wpAnyH_take (i := 0) (oi := ({ dst := some 15, op := Op.move (Operand.tmp 0), type := 22, pos := "law.go:95", after := #[], guard := none } : Oper)) (v := .slice (some ⟨b, o, none⟩) n c) rfl (by kernel_rfl) (by kernel_rfl) (by kernel_rfl) (fun _ _ _ h => h) (Or.inl ⟨by rfl, fun w hSw => by go_simp⟩) hHeld ?_
      simp only [Act.put, List.setIfInBounds_toArray, List.set_cons_zero, List.set_cons_succ]
      refine wpAnyH_take (i := 1) (oi := ({ dst := some 16, op := Op.call { callee := Callee.builtin Builtin.len, args := #[Operand.tmp 15], argTypes := #[22] }, type := 3, pos := "law.go:95", after := #[{ on := 0, ground := Ground.data }], guard := none } : Oper)) (v := .int .i64 (n : Int)) rfl (by kernel_rfl) (by kernel_rfl) (by kernel_rfl) (fun _ _ _ h => h) (Or.inl ⟨by rfl, fun w hSw => by go_simp⟩) hHeld ?_
      simp only [Act.put, List.setIfInBounds_toArray, List.set_cons_zero, List.set_cons_succ]
      refine wpAnyH_take (i := 2) (oi := ({ dst := some 17, op := Op.binOp BinOp.gtr 3 (Operand.tmp 16) (Operand.const (Value.int IntKind.i64 20)) 3, type := 4, pos := "law.go:95", after := #[{ on := 1, ground := Ground.data }], guard := none } : Oper)) (v := .bool false) rfl (by kernel_rfl) (by kernel_rfl) (by kernel_rfl) (fun _ _ _ h => h) (Or.inl ⟨by rfl, fun w hSw => by go_simp⟩) hHeld ?_
      simp only [Act.put, List.setIfInBounds_toArray, List.set_cons_zero, List.set_cons_succ]
      refine wpAnyH_take (i := 3) (oi := ({ dst := some 18, op := Op.move (Operand.tmp 17), type := 4, pos := "law.go:95", after := #[{ on := 2, ground := Ground.data }], guard := none } : Oper)) (v := .bool false) rfl (by kernel_rfl) (by kernel_rfl) (by kernel_rfl) (fun _ _ _ h => h) (Or.inl ⟨by rfl, fun w hSw => by go_simp⟩) hHeld ?_
      simp only [Act.put, List.setIfInBounds_toArray, List.set_cons_zero, List.set_cons_succ]
      refine wpAnyH_take (i := 4) (oi := ({ dst := some 19, op := Op.move (Operand.tmp 1), type := 3, pos := "law.go:95", after := #[{ on := 3, ground := Ground.guard }], guard := some (3, false) } : Oper)) (v := .int .i64 (j : Int)) rfl (by kernel_rfl) (by kernel_rfl) (by kernel_rfl) (fun _ _ _ h => h) (Or.inl ⟨by rfl, fun w hSw => by go_simp⟩) hHeld ?_
      simp only [Act.put, List.setIfInBounds_toArray, List.set_cons_zero, List.set_cons_succ]
      refine wpAnyH_take (i := 5) (oi := ({ dst := some 20, op := Op.binOp BinOp.lss 3 (Operand.tmp 19) (Operand.const (Value.int IntKind.i64 0)) 3, type := 4, pos := "law.go:95", after := #[{ on := 4, ground := Ground.data }, { on := 3, ground := Ground.guard }], guard := some (3, false) } : Oper)) (v := .bool false) rfl (by kernel_rfl) (by kernel_rfl) (by kernel_rfl) (fun _ _ _ h => h) (Or.inl ⟨by rfl, fun w hSw => by go_simp⟩) hHeld ?_
      simp only [Act.put, List.setIfInBounds_toArray, List.set_cons_zero, List.set_cons_succ]
      refine wpAnyH_take (i := 6) (oi := ({ dst := some 21, op := Op.pick (Operand.tmp 18) (Operand.const (Value.bool true)) (Operand.tmp 20), type := 4, pos := "law.go:95", after := #[{ on := 3, ground := Ground.data }, { on := 5, ground := Ground.data }], guard := none } : Oper)) (v := .bool false) rfl (by kernel_rfl) (by kernel_rfl) (by kernel_rfl) (fun _ _ _ h => h) (Or.inl ⟨by rfl, fun w hSw => by go_simp⟩) hHeld ?_
      simp only [Act.put, List.setIfInBounds_toArray, List.set_cons_zero, List.set_cons_succ]
      refine wpAnyH_take (i := 7) (oi := ({ dst := some 22, op := Op.move (Operand.tmp 21), type := 4, pos := "law.go:95", after := #[{ on := 6, ground := Ground.data }, { on := 3, ground := Ground.chain }], guard := none } : Oper)) (v := .bool false) rfl (by kernel_rfl) (by kernel_rfl) (by kernel_rfl) (fun _ _ _ h => h) (Or.inl ⟨by rfl, fun w hSw => by go_simp⟩) hHeld ?_
      simp only [Act.put, List.setIfInBounds_toArray, List.set_cons_zero, List.set_cons_succ]
      refine wpAnyH_take (i := 8) (oi := ({ dst := some 23, op := Op.move (Operand.tmp 1), type := 3, pos := "law.go:95", after := #[{ on := 7, ground := Ground.guard }], guard := some (7, false) } : Oper)) (v := .int .i64 (j : Int)) rfl (by kernel_rfl) (by kernel_rfl) (by kernel_rfl) (fun _ _ _ h => h) (Or.inl ⟨by rfl, fun w hSw => by go_simp⟩) hHeld ?_
      simp only [Act.put, List.setIfInBounds_toArray, List.set_cons_zero, List.set_cons_succ]
      refine wpAnyH_take (i := 9) (oi := ({ dst := some 24, op := Op.move (Operand.tmp 0), type := 22, pos := "law.go:95", after := #[{ on := 7, ground := Ground.guard }], guard := some (7, false) } : Oper)) (v := .slice (some ⟨b, o, none⟩) n c) rfl (by kernel_rfl) (by kernel_rfl) (by kernel_rfl) (fun _ _ _ h => h) (Or.inl ⟨by rfl, fun w hSw => by go_simp⟩) hHeld ?_
      simp only [Act.put, List.setIfInBounds_toArray, List.set_cons_zero, List.set_cons_succ]
      refine wpAnyH_take (i := 10) (oi := ({ dst := some 25, op := Op.call { callee := Callee.builtin Builtin.len, args := #[Operand.tmp 24], argTypes := #[22] }, type := 3, pos := "law.go:95", after := #[{ on := 9, ground := Ground.data }, { on := 7, ground := Ground.guard }], guard := some (7, false) } : Oper)) (v := .int .i64 (n : Int)) rfl (by kernel_rfl) (by kernel_rfl) (by kernel_rfl) (fun _ _ _ h => h) (Or.inl ⟨by rfl, fun w hSw => by go_simp⟩) hHeld ?_
      simp only [Act.put, List.setIfInBounds_toArray, List.set_cons_zero, List.set_cons_succ]
      refine wpAnyH_take (i := 11) (oi := ({ dst := some 26, op := Op.binOp BinOp.geq 3 (Operand.tmp 23) (Operand.tmp 25) 3, type := 4, pos := "law.go:95", after := #[{ on := 8, ground := Ground.data }, { on := 10, ground := Ground.data }, { on := 7, ground := Ground.guard }], guard := some (7, false) } : Oper)) (v := .bool false) rfl (by kernel_rfl) (by kernel_rfl) (by kernel_rfl) (fun _ _ _ h => h) (Or.inl ⟨by rfl, fun w hSw => by go_simp⟩) hHeld ?_
      simp only [Act.put, List.setIfInBounds_toArray, List.set_cons_zero, List.set_cons_succ]
      refine wpAnyH_take (i := 12) (oi := ({ dst := some 27, op := Op.pick (Operand.tmp 22) (Operand.const (Value.bool true)) (Operand.tmp 26), type := 4, pos := "law.go:95", after := #[{ on := 7, ground := Ground.data }, { on := 11, ground := Ground.data }], guard := none } : Oper)) (v := .bool false) rfl (by kernel_rfl) (by kernel_rfl) (by kernel_rfl) (fun _ _ _ h => h) (Or.inl ⟨by rfl, fun w hSw => by go_simp⟩) hHeld ?_
      simp only [Act.put, List.setIfInBounds_toArray, List.set_cons_zero, List.set_cons_succ]
      refine wpAnyH_take (i := 13) (oi := ({ dst := some 28, op := Op.move (Operand.tmp 27), type := 4, pos := "law.go:95", after := #[{ on := 12, ground := Ground.data }, { on := 7, ground := Ground.chain }], guard := none } : Oper)) (v := .bool false) rfl (by kernel_rfl) (by kernel_rfl) (by kernel_rfl) (fun _ _ _ h => h) (Or.inl ⟨by rfl, fun w hSw => by go_simp⟩) hHeld ?_
      simp only [Act.put, List.setIfInBounds_toArray, List.set_cons_zero, List.set_cons_succ]
      refine wpAnyH_take (i := 14) (oi := ({ dst := some 29, op := Op.move (Operand.tmp 0), type := 22, pos := "law.go:95", after := #[{ on := 13, ground := Ground.guard }], guard := some (13, false) } : Oper)) (v := .slice (some ⟨b, o, none⟩) n c) rfl (by kernel_rfl) (by kernel_rfl) (by kernel_rfl) (fun _ _ _ h => h) (Or.inl ⟨by rfl, fun w hSw => by go_simp⟩) hHeld ?_
      simp only [Act.put, List.setIfInBounds_toArray, List.set_cons_zero, List.set_cons_succ]
      refine wpAnyH_take (i := 15) (oi := ({ dst := some 30, op := Op.move (Operand.tmp 1), type := 3, pos := "law.go:95", after := #[{ on := 13, ground := Ground.guard }], guard := some (13, false) } : Oper)) (v := .int .i64 (j : Int)) rfl (by kernel_rfl) (by kernel_rfl) (by kernel_rfl) (fun _ _ _ h => h) (Or.inl ⟨by rfl, fun w hSw => by go_simp⟩) hHeld ?_
      simp only [Act.put, List.setIfInBounds_toArray, List.set_cons_zero, List.set_cons_succ]
      refine wpAnyH_take (i := 16) (oi := ({ dst := some 31, op := Op.indexAddr 22 (Operand.tmp 29) (Operand.tmp 30), type := 0, pos := "law.go:95", after := #[{ on := 14, ground := Ground.data }, { on := 15, ground := Ground.data }, { on := 13, ground := Ground.guard }], guard := some (13, false) } : Oper)) (v := .pointer (some ⟨b, o + j * 32, none⟩)) rfl (by kernel_rfl) (by kernel_rfl) (by kernel_rfl) (fun _ _ _ h => h) (Or.inl ⟨by rfl, fun w hSw => by go_simp⟩) hHeld ?_
      simp only [Act.put, List.setIfInBounds_toArray, List.set_cons_zero, List.set_cons_succ]
      refine wpAnyH_take (i := 17) (oi := ({ dst := some 32, op := Op.load 25 (Operand.tmp 31), type := 25, pos := "law.go:95", after := #[{ on := 16, ground := Ground.data }, { on := 13, ground := Ground.guard }], guard := some (13, false) } : Oper)) (v := .agg P.toArray) rfl (by kernel_rfl) (by kernel_rfl) (by kernel_rfl) (fun _ _ _ h => h) (yieldsIf_load_mid (by rfl) _ _ rfl b (o + j * 32) rfl P _ (fun _ h => h.1) hu rfl hi1) hHeld ?_
      simp only [Act.put, List.setIfInBounds_toArray, List.set_cons_zero, List.set_cons_succ]
      refine wpAnyH_take (i := 18) (oi := ({ dst := some 33, op := Op.load 25 (Operand.tmp 5), type := 25, pos := "law.go:95", after := #[{ on := 13, ground := Ground.guard }], guard := some (13, false) } : Oper)) (v := .agg H.toArray) rfl (by kernel_rfl) (by kernel_rfl) (by kernel_rfl) (fun _ _ _ h => h) (yieldsIf_load_mid (by rfl) _ _ rfl w.heap.size 0 rfl H _ (fun _ h => h.2) hu rfl hi2) hHeld ?_
      simp only [Act.put, List.setIfInBounds_toArray, List.set_cons_zero, List.set_cons_succ]
      refine wpAnyH_take (i := 19) (oi := ({ dst := some 34, op := Op.binOp BinOp.eql 25 (Operand.tmp 32) (Operand.tmp 33) 25, type := 4, pos := "law.go:95", after := #[{ on := 17, ground := Ground.data }, { on := 18, ground := Ground.data }, { on := 13, ground := Ground.guard }], guard := some (13, false) } : Oper)) (v := .bool true) rfl (by kernel_rfl) (by kernel_rfl) (by kernel_rfl) (fun _ _ _ h => h) (Or.inl ⟨by rfl, fun w hSw => by go_simp⟩) hHeld ?_
      simp only [Act.put, List.setIfInBounds_toArray, List.set_cons_zero, List.set_cons_succ]
      refine wpAnyH_take (i := 20) (oi := ({ dst := some 35, op := Op.pick (Operand.tmp 28) (Operand.const (Value.bool true)) (Operand.tmp 34), type := 4, pos := "law.go:95", after := #[{ on := 13, ground := Ground.data }, { on := 19, ground := Ground.data }], guard := none } : Oper)) (v := .bool true) rfl (by kernel_rfl) (by kernel_rfl) (by kernel_rfl) (fun _ _ _ h => h) (Or.inl ⟨by rfl, fun w hSw => by go_simp⟩) hHeld ?_
      simp only [Act.put, List.setIfInBounds_toArray, List.set_cons_zero, List.set_cons_succ]
      refine wpAnyH_done (by kernel_rfl) ?_ _
      clear q0 hi1 hi2 hHeld
      go_wp2_with fail
      refine (HAW.out _ (below_drew HB0.out)).mono ?_
      rintro e w1 ⟨rfl, hb⟩
      have HB1 := Lib.hid ((below_drew HB0.out).trans (Below.mono hb (below_drew HB0.out).size))
      clear hb
      go_wp2_with fail
      go_ret
      exact ⟨rfl, HB1.out⟩
    · rw [Bool.eq_false_iff.2 he] at q0
      have hset2 := hset (by simpa using he)
      have HX := Lib.hid (And.intro hn (And.intro hr (And.intro hH (And.intro hK (And.intro hset2 (And.intro hj h20))))))
      have HHB := Lib.hid (And.intro hh32 (And.intro hhb (And.intro hHe (And.intro hHl hH1))))
      clear hr hn hH hK h20 hbl hrg hp hp32 hset hPl hP hhb hh32 hset2 he
      go_enter Tryd.func8, Tryd.ntmps8
      go_wp2_with fail
      refine wp_region_held (S := fun u => u.rangeAt b (o + j * 32) P ∧ u.rangeAt w.heap.size 0 H) (by kernel_rfl) ?_
      change wpAnyH _ _ _ _ _ _ _ _ (World.drew _)
      refine wpAnyH_take (i := 0) (oi := ({ dst := some 15, op := Op.move (Operand.tmp 0), type := 22, pos := "law.go:95", after := #[], guard := none } : Oper)) (v := .slice (some ⟨b, o, none⟩) n c) rfl (by kernel_rfl) (by kernel_rfl) (by kernel_rfl) (fun _ _ _ h => h) (Or.inl ⟨by rfl, fun w hSw => by go_simp⟩) hHeld ?_
      simp only [Act.put, List.setIfInBounds_toArray, List.set_cons_zero, List.set_cons_succ]
      refine wpAnyH_take (i := 1) (oi := ({ dst := some 16, op := Op.call { callee := Callee.builtin Builtin.len, args := #[Operand.tmp 15], argTypes := #[22] }, type := 3, pos := "law.go:95", after := #[{ on := 0, ground := Ground.data }], guard := none } : Oper)) (v := .int .i64 (n : Int)) rfl (by kernel_rfl) (by kernel_rfl) (by kernel_rfl) (fun _ _ _ h => h) (Or.inl ⟨by rfl, fun w hSw => by go_simp⟩) hHeld ?_
      simp only [Act.put, List.setIfInBounds_toArray, List.set_cons_zero, List.set_cons_succ]
      refine wpAnyH_take (i := 2) (oi := ({ dst := some 17, op := Op.binOp BinOp.gtr 3 (Operand.tmp 16) (Operand.const (Value.int IntKind.i64 20)) 3, type := 4, pos := "law.go:95", after := #[{ on := 1, ground := Ground.data }], guard := none } : Oper)) (v := .bool false) rfl (by kernel_rfl) (by kernel_rfl) (by kernel_rfl) (fun _ _ _ h => h) (Or.inl ⟨by rfl, fun w hSw => by go_simp⟩) hHeld ?_
      simp only [Act.put, List.setIfInBounds_toArray, List.set_cons_zero, List.set_cons_succ]
      refine wpAnyH_take (i := 3) (oi := ({ dst := some 18, op := Op.move (Operand.tmp 17), type := 4, pos := "law.go:95", after := #[{ on := 2, ground := Ground.data }], guard := none } : Oper)) (v := .bool false) rfl (by kernel_rfl) (by kernel_rfl) (by kernel_rfl) (fun _ _ _ h => h) (Or.inl ⟨by rfl, fun w hSw => by go_simp⟩) hHeld ?_
      simp only [Act.put, List.setIfInBounds_toArray, List.set_cons_zero, List.set_cons_succ]
      refine wpAnyH_take (i := 4) (oi := ({ dst := some 19, op := Op.move (Operand.tmp 1), type := 3, pos := "law.go:95", after := #[{ on := 3, ground := Ground.guard }], guard := some (3, false) } : Oper)) (v := .int .i64 (j : Int)) rfl (by kernel_rfl) (by kernel_rfl) (by kernel_rfl) (fun _ _ _ h => h) (Or.inl ⟨by rfl, fun w hSw => by go_simp⟩) hHeld ?_
      simp only [Act.put, List.setIfInBounds_toArray, List.set_cons_zero, List.set_cons_succ]
      refine wpAnyH_take (i := 5) (oi := ({ dst := some 20, op := Op.binOp BinOp.lss 3 (Operand.tmp 19) (Operand.const (Value.int IntKind.i64 0)) 3, type := 4, pos := "law.go:95", after := #[{ on := 4, ground := Ground.data }, { on := 3, ground := Ground.guard }], guard := some (3, false) } : Oper)) (v := .bool false) rfl (by kernel_rfl) (by kernel_rfl) (by kernel_rfl) (fun _ _ _ h => h) (Or.inl ⟨by rfl, fun w hSw => by go_simp⟩) hHeld ?_
      simp only [Act.put, List.setIfInBounds_toArray, List.set_cons_zero, List.set_cons_succ]
      refine wpAnyH_take (i := 6) (oi := ({ dst := some 21, op := Op.pick (Operand.tmp 18) (Operand.const (Value.bool true)) (Operand.tmp 20), type := 4, pos := "law.go:95", after := #[{ on := 3, ground := Ground.data }, { on := 5, ground := Ground.data }], guard := none } : Oper)) (v := .bool false) rfl (by kernel_rfl) (by kernel_rfl) (by kernel_rfl) (fun _ _ _ h => h) (Or.inl ⟨by rfl, fun w hSw => by go_simp⟩) hHeld ?_
      simp only [Act.put, List.setIfInBounds_toArray, List.set_cons_zero, List.set_cons_succ]
      refine wpAnyH_take (i := 7) (oi := ({ dst := some 22, op := Op.move (Operand.tmp 21), type := 4, pos := "law.go:95", after := #[{ on := 6, ground := Ground.data }, { on := 3, ground := Ground.chain }], guard := none } : Oper)) (v := .bool false) rfl (by kernel_rfl) (by kernel_rfl) (by kernel_rfl) (fun _ _ _ h => h) (Or.inl ⟨by rfl, fun w hSw => by go_simp⟩) hHeld ?_
      simp only [Act.put, List.setIfInBounds_toArray, List.set_cons_zero, List.set_cons_succ]
      refine wpAnyH_take (i := 8) (oi := ({ dst := some 23, op := Op.move (Operand.tmp 1), type := 3, pos := "law.go:95", after := #[{ on := 7, ground := Ground.guard }], guard := some (7, false) } : Oper)) (v := .int .i64 (j : Int)) rfl (by kernel_rfl) (by kernel_rfl) (by kernel_rfl) (fun _ _ _ h => h) (Or.inl ⟨by rfl, fun w hSw => by go_simp⟩) hHeld ?_
      simp only [Act.put, List.setIfInBounds_toArray, List.set_cons_zero, List.set_cons_succ]
      refine wpAnyH_take (i := 9) (oi := ({ dst := some 24, op := Op.move (Operand.tmp 0), type := 22, pos := "law.go:95", after := #[{ on := 7, ground := Ground.guard }], guard := some (7, false) } : Oper)) (v := .slice (some ⟨b, o, none⟩) n c) rfl (by kernel_rfl) (by kernel_rfl) (by kernel_rfl) (fun _ _ _ h => h) (Or.inl ⟨by rfl, fun w hSw => by go_simp⟩) hHeld ?_
      simp only [Act.put, List.setIfInBounds_toArray, List.set_cons_zero, List.set_cons_succ]
      refine wpAnyH_take (i := 10) (oi := ({ dst := some 25, op := Op.call { callee := Callee.builtin Builtin.len, args := #[Operand.tmp 24], argTypes := #[22] }, type := 3, pos := "law.go:95", after := #[{ on := 9, ground := Ground.data }, { on := 7, ground := Ground.guard }], guard := some (7, false) } : Oper)) (v := .int .i64 (n : Int)) rfl (by kernel_rfl) (by kernel_rfl) (by kernel_rfl) (fun _ _ _ h => h) (Or.inl ⟨by rfl, fun w hSw => by go_simp⟩) hHeld ?_
      simp only [Act.put, List.setIfInBounds_toArray, List.set_cons_zero, List.set_cons_succ]
      refine wpAnyH_take (i := 11) (oi := ({ dst := some 26, op := Op.binOp BinOp.geq 3 (Operand.tmp 23) (Operand.tmp 25) 3, type := 4, pos := "law.go:95", after := #[{ on := 8, ground := Ground.data }, { on := 10, ground := Ground.data }, { on := 7, ground := Ground.guard }], guard := some (7, false) } : Oper)) (v := .bool false) rfl (by kernel_rfl) (by kernel_rfl) (by kernel_rfl) (fun _ _ _ h => h) (Or.inl ⟨by rfl, fun w hSw => by go_simp⟩) hHeld ?_
      simp only [Act.put, List.setIfInBounds_toArray, List.set_cons_zero, List.set_cons_succ]
      refine wpAnyH_take (i := 12) (oi := ({ dst := some 27, op := Op.pick (Operand.tmp 22) (Operand.const (Value.bool true)) (Operand.tmp 26), type := 4, pos := "law.go:95", after := #[{ on := 7, ground := Ground.data }, { on := 11, ground := Ground.data }], guard := none } : Oper)) (v := .bool false) rfl (by kernel_rfl) (by kernel_rfl) (by kernel_rfl) (fun _ _ _ h => h) (Or.inl ⟨by rfl, fun w hSw => by go_simp⟩) hHeld ?_
      simp only [Act.put, List.setIfInBounds_toArray, List.set_cons_zero, List.set_cons_succ]
      refine wpAnyH_take (i := 13) (oi := ({ dst := some 28, op := Op.move (Operand.tmp 27), type := 4, pos := "law.go:95", after := #[{ on := 12, ground := Ground.data }, { on := 7, ground := Ground.chain }], guard := none } : Oper)) (v := .bool false) rfl (by kernel_rfl) (by kernel_rfl) (by kernel_rfl) (fun _ _ _ h => h) (Or.inl ⟨by rfl, fun w hSw => by go_simp⟩) hHeld ?_
      simp only [Act.put, List.setIfInBounds_toArray, List.set_cons_zero, List.set_cons_succ]
      refine wpAnyH_take (i := 14) (oi := ({ dst := some 29, op := Op.move (Operand.tmp 0), type := 22, pos := "law.go:95", after := #[{ on := 13, ground := Ground.guard }], guard := some (13, false) } : Oper)) (v := .slice (some ⟨b, o, none⟩) n c) rfl (by kernel_rfl) (by kernel_rfl) (by kernel_rfl) (fun _ _ _ h => h) (Or.inl ⟨by rfl, fun w hSw => by go_simp⟩) hHeld ?_
      simp only [Act.put, List.setIfInBounds_toArray, List.set_cons_zero, List.set_cons_succ]
      refine wpAnyH_take (i := 15) (oi := ({ dst := some 30, op := Op.move (Operand.tmp 1), type := 3, pos := "law.go:95", after := #[{ on := 13, ground := Ground.guard }], guard := some (13, false) } : Oper)) (v := .int .i64 (j : Int)) rfl (by kernel_rfl) (by kernel_rfl) (by kernel_rfl) (fun _ _ _ h => h) (Or.inl ⟨by rfl, fun w hSw => by go_simp⟩) hHeld ?_
      simp only [Act.put, List.setIfInBounds_toArray, List.set_cons_zero, List.set_cons_succ]
      refine wpAnyH_take (i := 16) (oi := ({ dst := some 31, op := Op.indexAddr 22 (Operand.tmp 29) (Operand.tmp 30), type := 0, pos := "law.go:95", after := #[{ on := 14, ground := Ground.data }, { on := 15, ground := Ground.data }, { on := 13, ground := Ground.guard }], guard := some (13, false) } : Oper)) (v := .pointer (some ⟨b, o + j * 32, none⟩)) rfl (by kernel_rfl) (by kernel_rfl) (by kernel_rfl) (fun _ _ _ h => h) (Or.inl ⟨by rfl, fun w hSw => by go_simp⟩) hHeld ?_
      simp only [Act.put, List.setIfInBounds_toArray, List.set_cons_zero, List.set_cons_succ]
      refine wpAnyH_take (i := 17) (oi := ({ dst := some 32, op := Op.load 25 (Operand.tmp 31), type := 25, pos := "law.go:95", after := #[{ on := 16, ground := Ground.data }, { on := 13, ground := Ground.guard }], guard := some (13, false) } : Oper)) (v := .agg P.toArray) rfl (by kernel_rfl) (by kernel_rfl) (by kernel_rfl) (fun _ _ _ h => h) (yieldsIf_load_mid (by rfl) _ _ rfl b (o + j * 32) rfl P _ (fun _ h => h.1) hu rfl hi1) hHeld ?_
      simp only [Act.put, List.setIfInBounds_toArray, List.set_cons_zero, List.set_cons_succ]
      refine wpAnyH_take (i := 18) (oi := ({ dst := some 33, op := Op.load 25 (Operand.tmp 5), type := 25, pos := "law.go:95", after := #[{ on := 13, ground := Ground.guard }], guard := some (13, false) } : Oper)) (v := .agg H.toArray) rfl (by kernel_rfl) (by kernel_rfl) (by kernel_rfl) (fun _ _ _ h => h) (yieldsIf_load_mid (by rfl) _ _ rfl w.heap.size 0 rfl H _ (fun _ h => h.2) hu rfl hi2) hHeld ?_
      simp only [Act.put, List.setIfInBounds_toArray, List.set_cons_zero, List.set_cons_succ]
      refine wpAnyH_take (i := 19) (oi := ({ dst := some 34, op := Op.binOp BinOp.eql 25 (Operand.tmp 32) (Operand.tmp 33) 25, type := 4, pos := "law.go:95", after := #[{ on := 17, ground := Ground.data }, { on := 18, ground := Ground.data }, { on := 13, ground := Ground.guard }], guard := some (13, false) } : Oper)) (v := .bool false) rfl (by kernel_rfl) (by kernel_rfl) (by kernel_rfl) (fun _ _ _ h => h) (Or.inl ⟨by rfl, fun w hSw => by go_simp⟩) hHeld ?_
      simp only [Act.put, List.setIfInBounds_toArray, List.set_cons_zero, List.set_cons_succ]
      refine wpAnyH_take (i := 20) (oi := ({ dst := some 35, op := Op.pick (Operand.tmp 28) (Operand.const (Value.bool true)) (Operand.tmp 34), type := 4, pos := "law.go:95", after := #[{ on := 13, ground := Ground.data }, { on := 19, ground := Ground.data }], guard := none } : Oper)) (v := .bool false) rfl (by kernel_rfl) (by kernel_rfl) (by kernel_rfl) (fun _ _ _ h => h) (Or.inl ⟨by rfl, fun w hSw => by go_simp⟩) hHeld ?_
      simp only [Act.put, List.setIfInBounds_toArray, List.set_cons_zero, List.set_cons_succ]
      refine wpAnyH_done (by kernel_rfl) ?_ _
      clear q0 hi1 hHeld f0 f1 f2
      have hb0 := fun u => run_build0 u
      have HRX := Lib.hid (fun (u : World) (hu : Below w.heap.size w u) => Kd.C_below HX.out.2.1 hu)
      have HLL := Lib.hid (show (([] : List (List Int)).length + n) * 32 ≤ 140737488355328 by have := HX.out.2.2.2.2.2.2; simp; omega)
      have HB1 := Lib.hid (below_drew HB0.out)
      obtain ⟨W1, hW1⟩ : ∃ W1, (w.alloc (.cells H.toArray 25)).drew = W1 := ⟨_, rfl⟩
      have HK1 := Lib.hid (show W1.heap[w.heap.size]? = some (.cells H.toArray 25 (0, 0)) by rw [← hW1]; exact HK0.out)
      rw [hW1] at HB1 ⊢
      have HE := Lib.hid (empty_row w W1 HB1.out.size)
      have HB2 := Lib.hid (below_alloc HB1.out (.cells #[] 25))
      have HK2 := Lib.hid (blk_alloc HK1.out (.cells #[] 25))
      clear hW1 HK0 HRH
      have HIX := Lib.hid (And.intro hi2 (show (Tryd.prog.info? 25).map (·.size) = some H.toArray.size by rw [List.size_toArray]; exact hi2))
      have HU := Lib.hid hu
      clear hi2 hHl hH1
      go_wp2_with (first
        | ((with_reducible refine gate_builtin (b := .append) (xs := #[.tmp 37, .tmp 38]) rfl ?_); at_builtin; refine Kd.R_append_rows kH (w0 := w) w.heap.size rfl (.tmp 37) (.tmp 38) 22 25 (.agg (nums .u8 (List.replicate 32 0)).toArray) 32 rfl Tryd.underlying22 infoH3 rfl (by decide) (by decide) (.slice (some ⟨W1.heap.size, 0, none⟩) 0 0) ([] : List (List Int)) xs (some ⟨b, o, none⟩) n c (fun _ => True) (fun _ => False) rfl rfl HE.out (HRX.out _ HB2.out) (fun _ _ h => kH_move h) (fun _ h => h.elim) (fun _ _ => trivial) HB2.out HB2.out.size HLL.out ?_;
           intro v3 w3 ho hb hg hat; have HR3 := Lib.hid ho; have HB3 := Lib.hid hb; have HG3 := Lib.hid hg; clear ho hb hg hat;
           have HK3 := Lib.hid (grown_blk HG3.out HK2.out (ne_own (Nat.ne_of_lt (blk_lt HK1.out))));
           obtain ⟨g, cap, rfl⟩ := R_form HR3.out HX.out.1.symm (by omega);
           obtain ⟨hcl, hcc⟩ := R_cells HR3.out (show j < xs.length from HX.out.1 ▸ f6);
           have HCL := Lib.hid hcl; have HCC := Lib.hid hcc;
           have HSM := Lib.hid (kH_set2 w3 w.heap.size (fun _ => False) hcl HHB.out.1 HHB.out.2.2.1);
           have HF32 := Lib.hid (show 0 + H.length ≤ 32 from by rw [HHB.out.2.2.2.1]; omega);
           clear hcl hcc)
        | ((with_reducible show wpList _ _ _ (Oper.mk _ (Op.load _ (.tmp 5)) _ _ _ _ :: _) _ _); (go_loud (refine wpList_load_row rfl 25 (.tmp 5) rfl w.heap.size rfl 25 H.toArray (0, 0) _ HK3.out HU.out rfl HIX.out.2 ?_)))
        | ((with_reducible show wpList _ _ _ (Oper.mk _ (Op.store _ _ _) _ _ _ _ :: _) _ _); (go_loud (refine Kd.R_store kH (w0 := w) w.heap.size rfl rfl 25 (.tmp 43) (.tmp 42) rfl 25 (g := g) (n := n) (cap := cap) (j : Int) 0 xs hh (.agg H.toArray) H (nums .u8 (rdH xs j)) (fun _ => True) (fun _ => False) rfl (by rfl) rfl rfl HIX.out.1 HHB.out.2.2.2.2 HR3.out f3 f4 HCL.out HCC.out HF32.out HSM.out (fun _ h => h.elim) HB3.out ?_)); (intro w4 ho hb hg; have HR4 := Lib.hid ho; have HB4 := Lib.hid hb; clear ho hb hg)))
      rw [Int.toNat_natCast] at HR4
      obtain ⟨ys, hys⟩ : ∃ ys, xs.set j hh = ys := ⟨_, rfl⟩
      rw [hys] at HR4 HX
      have hyl : ys.length = n := by rw [← hys, List.length_set]; exact HX.out.1.symm
      have hyH : Hs ys := by rw [← hys]; exact set_Hs HX.out.2.2.1 ⟨HHB.out.1, HHB.out.2.1⟩
      have hcap := (Kd.R_reads' HR4.out).2.1
      have hC4 := (Kd.R_reads' HR4.out).2.2
      rw [hyl] at hC4
      have HY := Lib.hid (And.intro hyl (And.intro hyH (And.intro hcap hC4)))
      have HROX := Lib.hid (root_calls (some ⟨b, o, none⟩) n c xs w4 HX.out.1 (HRX.out _ HB4.out) hc (by have := HX.out.2.2.2.2.2.2; omega) HX.out.2.2.1 (HX.out.2.2.2.1.below HB4.out (Nat.le_refl _)))
      have HROY := Lib.hid (fun (u : World) (hu : Below w4.heap.size w4 u) => root_calls (some ⟨g, 0, none⟩) n cap ys u hyl.symm (Kd.C_below hC4 hu) hcap (by have := HX.out.2.2.2.2.2.2; omega) hyH (HX.out.2.2.2.1.below (HB4.out.trans (Below.mono hu HB4.out.size)) (Nat.le_refl _)))
      have q0 := fun u => eqH (rootP xs) (rootP ys) (rootP_hash HX.out.2.2.1).1 (rootP_hash hyH).1 u
      clear hcap hC4 hyl hyH hys HCL HCC HSM HF32 HR4 HG3 HR3 HK3 HIX HE HB2 HK2 HK1 HB1 HB3
      by_cases her : (rootP xs == rootP ys) = true
      · have HER := Lib.hid (show rootP xs = rootP ys by simpa using her)
        rw [her] at q0
        clear her
        refine HROX.out.mono ?_
        rintro e w5 ⟨rfl, hb5⟩
        have HB5 := Lib.hid hb5
        have HROY5 := Lib.hid (HROY.out _ hb5)
        clear hb5 HROX HROY
        go_wp2_with fail
        refine HROY5.out.mono ?_
        rintro e w6 ⟨rfl, hb6⟩
        have HB6 := Lib.hid (HB5.out.trans (Below.mono hb6 HB5.out.size))
        clear hb6 HROY5
        have HX6 := Lib.hid (Kd.C_alloc (HRX.out _ (HB4.out.trans (Below.mono HB6.out HB4.out.size))) (.cells #[] 25))
        have HY6 := Lib.hid (Kd.C_below HY.out.2.2.2 HB6.out)
        have HT6 := Lib.hid (HB4.out.trans (Below.mono HB6.out HB4.out.size))
        have HE6 := Lib.hid (empty_row w6 w6 (Nat.le_refl _))
        have HA6 := Lib.hid (below_alloc (Below.refl w6.heap.size w6) (.cells #[] 25))
        have HNX := Lib.hid (HX.out.1.symm)
        go_wp2_with ((with_reducible refine gate_builtin (b := .append) (xs := #[.tmp 50, .tmp 51]) rfl ?_); at_builtin; refine Kd.R_append_rows kH (w0 := w6) w6.heap.size rfl (.tmp 50) (.tmp 51) 22 25 (.agg (nums .u8 (List.replicate 32 0)).toArray) 32 rfl Tryd.underlying22 infoH3 rfl (by decide) (by decide) (.slice (some ⟨w6.heap.size, 0, none⟩) 0 0) ([] : List (List Int)) xs (some ⟨b, o, none⟩) n c (fun _ => True) (fun _ => False) rfl rfl HE6.out HX6.out (fun _ _ h => kH_move h) (fun _ h => h.elim) (fun _ _ => trivial) HA6.out HA6.out.size HLL.out ?_; intro v7 w7 ho hb hg hat; obtain ⟨A7, c7, rfl, hc7, hC7⟩ := Kd.R_reads ho; rw [List.nil_append, HNX.out] at hc7 hC7 ⊢; have HC7 := Lib.hid (And.intro hc7 hC7); have HB7 := Lib.hid hb; clear ho hb hg hat hc7 hC7)
        clear q0 hb0 HLL HRX HX6 HE6 HA6 HB5 HU hHe HHB f3 f4 f5 f6 hj
        go_loopw [8, 9] (fun va vb wr => ∃ (k : Nat) (Aa Ab : Option Addr) (ca cb : Nat), va = .slice Aa (wideP n k) ca ∧ vb = .slice Ab (wideP n k) cb ∧ Hid (wideP n k ≤ ca ∧ wideP n k ≤ cb ∧ Kd.C kH wr Aa (wideP n k) (lev xs k) ∧ Kd.C kH wr Ab (wideP n k) (lev ys k) ∧ Below w6.heap.size w6 wr ∧ ∀ t, t < k → okAt xs ys t ∧ 1 < wideP n t)) (fun va _ _ => lenV va)
        case atStart => exact ⟨0, A7, some ⟨g, 0, none⟩, c7, cap, rfl, rfl, Lib.hid ⟨HC7.out.1, HY.out.2.2.1, HC7.out.2, Kd.C_below HY6.out HB7.out, HB7.out, fun t ht => absurd ht (by omega)⟩⟩
        case round =>
          obtain ⟨k, Aa, Ab, ca, cb, rfl, rfl, HI⟩ := hrel
          obtain ⟨hca, hcb, hCa, hCb, hB, hok⟩ := HI.out
          obtain ⟨l, hl⟩ : ∃ l, wideP n k = l := ⟨_, rfl⟩
          obtain ⟨m, hmm⟩ : ∃ m, wideP n (k + 1) = m := ⟨_, rfl⟩
          have hlm : m = (l + 1) / 2 := by rw [← hmm, ← hl]; rfl
          have hl20 : l ≤ 20 := by have := wideP_le n k; have := HX.out.2.2.2.2.2.2; omega
          have HBW := Lib.hid (HT6.out.trans (Below.mono hB HT6.out.size))
          by_cases hlt : 1 < l
          · have HAX := Lib.hid (above_lev HX.out.1.symm HX.out.2.2.1 (by have := HX.out.2.2.2.2.2.2; omega) Aa ca k wr hCa hca (HX.out.2.2.2.1.below HBW.out (Nat.le_refl _)))
            have HAY := Lib.hid (fun (u : World) (hu : Below wr.heap.size wr u) => above_lev HY.out.1 HY.out.2.1 (by have := HX.out.2.2.2.2.2.2; omega) Ab cb k u (Kd.C_below hCb hu) hcb (HX.out.2.2.2.1.below (HBW.out.trans (Below.mono hu HBW.out.size)) (Nat.le_refl _)))
            have HOK := Lib.hid (And.intro hok (And.intro hl hmm))
            have HRA := Lib.hid (And.intro hCa (And.intro hCb hB))
            have g1 : (1 : Int) < (l : Int) := by omega
            rw [hl, hmm] at HAX HAY
            rw [hl] at HRA hca hcb ⊢
            have HLM := Lib.hid (And.intro hlm (And.intro hl20 hlt))
            have HCAB := Lib.hid (And.intro hca hcb)
            clear hok hl hmm hCa hCb hB HI hlm hl20 hca hcb
            go_wp2_with fail
            refine HAX.out.mono ?_
            rintro e wa ⟨Ax, cx, rfl, hcx, hCx, hbx⟩
            have HBX := Lib.hid hbx
            have HAY2 := Lib.hid (HAY.out _ hbx)
            clear hbx HAX HAY
            go_wp2_with fail
            refine HAY2.out.mono ?_
            rintro e wb ⟨AY, cY, rfl, hcY, hCY, hby⟩
            have HBB := Lib.hid (HBX.out.trans (Below.mono hby HBX.out.size))
            have HROWS := Lib.hid (And.intro (Kd.C_below hCx hby) (And.intro hCY (And.intro (Kd.C_below HRA.out.1 HBB.out) (Kd.C_below HRA.out.2.1 HBB.out))))
            have HCXY := Lib.hid (And.intro hcx hcY)
            have HBW2 := Lib.hid (HBW.out.trans (Below.mono HBB.out HBW.out.size))
            have HB62 := Lib.hid (HRA.out.2.2.trans (Below.mono HBB.out HRA.out.2.2.size))
            clear hcx hCx hcY hCY hby HAY2 HRA
            go_wp2_with fail
            go_loopw [75] (fun i wr2 => ∃ t : Nat, t ≤ m ∧ i = .int .i64 (t : Int) ∧ Hid (Below wb.heap.size wb wr2 ∧ ∀ i, i < t → pOk xs ys k i)) (fun i _ => (m + 1 - (intOf i).toNat))
            case atStart => exact ⟨0, Nat.zero_le _, rfl, Lib.hid ⟨Below.refl _ _, fun i hi => absurd hi (by omega)⟩⟩
            case round =>
              obtain ⟨t, ht, rfl, HJ⟩ := hrel
              obtain ⟨hB2, hpo⟩ := HJ.out
              have HB2 := Lib.hid hB2
              have HPO := Lib.hid hpo
              clear hB2 hpo HJ
              by_cases htm : t < m
              · obtain ⟨jj, hjj⟩ : ∃ jj, min (2 * t + 1) (l - 1) = jj := ⟨_, rfl⟩
                obtain ⟨hlm, hl20, hl1⟩ := HLM.out
                have hXl : (lev xs (k + 1)).length = m := by rw [lev_len, ← HX.out.1, HOK.out.2.2]
                have hYl : (lev ys (k + 1)).length = m := by rw [lev_len, HY.out.1, HOK.out.2.2]
                have hal : (lev xs k).length = l := by rw [lev_len, ← HX.out.1, HOK.out.2.1]
                have hbl : (lev ys k).length = l := by rw [lev_len, HY.out.1, HOK.out.2.1]
                obtain ⟨bx, ox, rfl, hbx, hgx⟩ := C_hash (by rw [hXl]; exact HROWS.out.1) (by omega)
                obtain ⟨bY, oY, rfl, hby, hgy⟩ := C_hash (by rw [hYl]; exact HROWS.out.2.1) (by omega)
                obtain ⟨ba, oa, rfl, hba, hga⟩ := C_hash (by rw [hal]; exact HROWS.out.2.2.1) (by omega)
                obtain ⟨bb, ob, rfl, hbb, hgb⟩ := C_hash (by rw [hbl]; exact HROWS.out.2.2.2) (by omega)
                obtain ⟨rX, sX⟩ := hgx t (by omega)
                obtain ⟨rY, sY⟩ := hgy t (by omega)
                obtain ⟨rPA, sPA⟩ := hga (2 * t) (by omega)
                obtain ⟨rPB, sPB⟩ := hgb (2 * t) (by omega)
                obtain ⟨rQA, sQA⟩ := hga jj (by omega)
                obtain ⟨rQB, sQB⟩ := hgb jj (by omega)
                have HPK := Lib.hid (show pOk xs ys k t ↔ (rdH (lev xs (k + 1)) t = rdH (lev ys (k + 1)) t → rdH (lev xs k) (2 * t) = rdH (lev ys k) (2 * t) ∧ rdH (lev xs k) jj = rdH (lev ys k) jj) by
                  unfold pOk
                  rw [← HX.out.1, HOK.out.2.1, hjj])
                obtain ⟨i0, hi0⟩ : ∃ i, 2 * t = i := ⟨_, rfl⟩
                rw [hi0] at rPA sPA rPB sPB HPK
                have qx := fun u => eqH (rdH (lev xs (k + 1)) t) (rdH (lev ys (k + 1)) t) sX sY u
                have qp := fun u => eqH (rdH (lev xs k) i0) (rdH (lev ys k) i0) sPA sPB u
                have qq := fun u => eqH (rdH (lev xs k) jj) (rdH (lev ys k) jj) sQA sQB u
                have hiX := info_of sX
                have hiY := info_of sY
                have hiPA := info_of sPA
                have hiPB := info_of sPB
                have hiQA := info_of sQA
                have hiQB := info_of sQB
                obtain ⟨vX, hvX⟩ : ∃ v, rdH (lev xs (k + 1)) t = v := ⟨_, rfl⟩
                obtain ⟨vY, hvY⟩ : ∃ v, rdH (lev ys (k + 1)) t = v := ⟨_, rfl⟩
                obtain ⟨vPA, hvPA⟩ : ∃ v, rdH (lev xs k) i0 = v := ⟨_, rfl⟩
                obtain ⟨vPB, hvPB⟩ : ∃ v, rdH (lev ys k) i0 = v := ⟨_, rfl⟩
                obtain ⟨vQA, hvQA⟩ : ∃ v, rdH (lev xs k) jj = v := ⟨_, rfl⟩
                obtain ⟨vQB, hvQB⟩ : ∃ v, rdH (lev ys k) jj = v := ⟨_, rfl⟩
                rw [hvX, hvY] at HPK qx
                rw [hvPA, hvPB] at HPK qp
                rw [hvQA, hvQB] at HPK qq
                rw [hvX] at rX hiX
                rw [hvY] at rY hiY
                rw [hvPA] at rPA hiPA
                rw [hvPB] at rPB hiPB
                rw [hvQA] at rQA hiQA
                rw [hvQB] at rQB hiQB
                obtain ⟨UX, hUX⟩ : ∃ v, nums .u8 vX = v := ⟨_, rfl⟩
                obtain ⟨UY, hUY⟩ : ∃ v, nums .u8 vY = v := ⟨_, rfl⟩
                obtain ⟨PA, hPA⟩ : ∃ v, nums .u8 vPA = v := ⟨_, rfl⟩
                obtain ⟨PB, hPB⟩ : ∃ v, nums .u8 vPB = v := ⟨_, rfl⟩
                obtain ⟨QA, hQA⟩ : ∃ v, nums .u8 vQA = v := ⟨_, rfl⟩
                obtain ⟨QB, hQB⟩ : ∃ v, nums .u8 vQB = v := ⟨_, rfl⟩
                rw [hUX] at rX hiX qx
                rw [hUY] at rY hiY qx
                rw [hPA] at rPA hiPA qp
                rw [hPB] at rPB hiPB qp
                rw [hQA] at rQA hiQA qq
                rw [hQB] at rQB hiQB qq
                have HS := Lib.hid (show ∀ u : World, Below wb.heap.size wb u → u.rangeAt bx (ox + t * 32) UX ∧ u.rangeAt bY (oY + t * 32) UY ∧ u.rangeAt ba (oa + i0 * 32) PA ∧ u.rangeAt bb (ob + i0 * 32) PB ∧ u.rangeAt ba (oa + jj * 32) QA ∧ u.rangeAt bb (ob + jj * 32) QB from fun u hu => ⟨range_below hu hbx rX, range_below hu hby rY, range_below hu hba rPA, range_below hu hbb rPB, range_below hu hba rQA, range_below hu hbb rQB⟩)
                have hk1 : (2 : Int) * (t : Int) = (i0 : Int) := by omega
                have g2 : (0 : Int) ≤ (i0 : Int) := by omega
                have g3 : (i0 : Int) < (l : Int) := by omega
                have g4 : (0 : Int) ≤ (jj : Int) := by omega
                have g5 : (jj : Int) < (l : Int) := by omega
                have g6 : (0 : Int) ≤ (t : Int) := by omega
                have g7 : (t : Int) < (m : Int) := by omega
                have hmin : min ((i0 : Int) + 1) ((l : Int) - 1) = (jj : Int) := by omega
                have hmin2 : (if (l : Int) - 1 < (i0 : Int) + 1 then (l : Int) - 1 else (i0 : Int) + 1) = (jj : Int) := by split <;> omega
                have hw1 : IntKind.i64.wrap (i0 : Int) = (i0 : Int) := IntWalk.i64_in _ (by omega)
                have hw2 : IntKind.i64.wrap ((i0 : Int) + 1) = (i0 : Int) + 1 := IntWalk.i64_in _ (by omega)
                have hw3 : IntKind.i64.wrap ((l : Int) - 1) = (l : Int) - 1 := IntWalk.i64_in _ (by omega)
                have HG := Lib.hid (show t + 1 ≤ m by omega)
                have HME := Lib.hid (show m + 1 - (t + 1) < m + 1 - t by omega)
                have HWS := Lib.hid (show wrap64 ((t : Int) + 1) = ((t + 1 : Nat) : Int) from wrap64_succ (by omega))
                have HSUC := Lib.hid (show pOk xs ys k t → ∀ i, i < t + 1 → pOk xs ys k i from fun h i hi => by
                  by_cases e : i = t
                  · rw [e]; exact h
                  · exact HPO.out i (by omega))
                clear rX rY rPA rPB rQA rQB sX sY sPA sPB sQA sQB hgx hgy hga hgb hXl hYl hal hbl hbx hby hba hbb hvX hvY hvPA hvPB hvQA hvQB hUX hUY hPA hPB hQA hQB hlm hl20 hl1 hjj hi0
                by_cases ex : (vX == vY) = true
                · by_cases ep : (vPA == vPB) = true
                  · by_cases eq2 : (vQA == vQB) = true
                    · have HOKT := Lib.hid (HSUC.out (HPK.out.2 fun _ => ⟨by simpa using ep, by simpa using eq2⟩))
                      rw [ex] at qx
                      rw [ep] at qp
                      rw [eq2] at qq
                      clear ex ep eq2 HSUC HPK
                      as_aux_lemma =>
                        go_wp2_with fail
                        have hHeld := HS.out _ (below_drew HB2.out)
                        refine wp_region_held (S := fun u => u.rangeAt bx (ox + t * 32) UX ∧ u.rangeAt bY (oY + t * 32) UY ∧ u.rangeAt ba (oa + i0 * 32) PA ∧ u.rangeAt bb (ob + i0 * 32) PB ∧ u.rangeAt ba (oa + jj * 32) QA ∧ u.rangeAt bb (ob + jj * 32) QB) (by kernel_rfl) ?_
                        change wpAnyH _ _ _ _ _ _ _ _ (World.drew _)
                        refine wpAnyH_take (i := 0) (oi := ({ dst := some 92, op := Op.move (Operand.tmp 10), type := 22, pos := "law.go:111", after := #[], guard := none } : Oper)) (v := .slice (some ⟨bx, ox, none⟩) m cx) rfl (by kernel_rfl) (by kernel_rfl) (by kernel_rfl) (fun _ _ _ h => h) (Or.inl ⟨by rfl, fun w hSw => by go_simp⟩) hHeld ?_
                        simp only [Act.put, List.setIfInBounds_toArray, List.set_cons_zero, List.set_cons_succ]
                        refine wpAnyH_take (i := 1) (oi := ({ dst := some 93, op := Op.move (Operand.tmp 12), type := 3, pos := "law.go:111", after := #[], guard := none } : Oper)) (v := .int .i64 (t : Int)) rfl (by kernel_rfl) (by kernel_rfl) (by kernel_rfl) (fun _ _ _ h => h) (Or.inl ⟨by rfl, fun w hSw => by go_simp⟩) hHeld ?_
                        simp only [Act.put, List.setIfInBounds_toArray, List.set_cons_zero, List.set_cons_succ]
                        refine wpAnyH_take (i := 2) (oi := ({ dst := some 94, op := Op.indexAddr 22 (Operand.tmp 92) (Operand.tmp 93), type := 0, pos := "law.go:111", after := #[{ on := 0, ground := Ground.data }, { on := 1, ground := Ground.data }], guard := none } : Oper)) (v := .pointer (some ⟨bx, ox + t * 32, none⟩)) rfl (by kernel_rfl) (by kernel_rfl) (by kernel_rfl) (fun _ _ _ h => h) (Or.inl ⟨by rfl, fun w hSw => by go_simp⟩) hHeld ?_
                        simp only [Act.put, List.setIfInBounds_toArray, List.set_cons_zero, List.set_cons_succ]
                        refine wpAnyH_take (i := 3) (oi := ({ dst := some 95, op := Op.load 25 (Operand.tmp 94), type := 25, pos := "law.go:111", after := #[{ on := 2, ground := Ground.data }], guard := none } : Oper)) (v := .agg UX.toArray) rfl (by kernel_rfl) (by kernel_rfl) (by kernel_rfl) (fun _ _ _ h => h) (yieldsIf_load_mid (by rfl) _ _ rfl bx (ox + t * 32) rfl UX _ (fun _ h => h.1) hu rfl hiX) hHeld ?_
                        simp only [Act.put, List.setIfInBounds_toArray, List.set_cons_zero, List.set_cons_succ]
                        refine wpAnyH_take (i := 4) (oi := ({ dst := some 96, op := Op.move (Operand.tmp 11), type := 22, pos := "law.go:111", after := #[], guard := none } : Oper)) (v := .slice (some ⟨bY, oY, none⟩) m cY) rfl (by kernel_rfl) (by kernel_rfl) (by kernel_rfl) (fun _ _ _ h => h) (Or.inl ⟨by rfl, fun w hSw => by go_simp⟩) hHeld ?_
                        simp only [Act.put, List.setIfInBounds_toArray, List.set_cons_zero, List.set_cons_succ]
                        refine wpAnyH_take (i := 5) (oi := ({ dst := some 97, op := Op.move (Operand.tmp 12), type := 3, pos := "law.go:111", after := #[], guard := none } : Oper)) (v := .int .i64 (t : Int)) rfl (by kernel_rfl) (by kernel_rfl) (by kernel_rfl) (fun _ _ _ h => h) (Or.inl ⟨by rfl, fun w hSw => by go_simp⟩) hHeld ?_
                        simp only [Act.put, List.setIfInBounds_toArray, List.set_cons_zero, List.set_cons_succ]
                        refine wpAnyH_take (i := 6) (oi := ({ dst := some 98, op := Op.indexAddr 22 (Operand.tmp 96) (Operand.tmp 97), type := 0, pos := "law.go:111", after := #[{ on := 4, ground := Ground.data }, { on := 5, ground := Ground.data }], guard := none } : Oper)) (v := .pointer (some ⟨bY, oY + t * 32, none⟩)) rfl (by kernel_rfl) (by kernel_rfl) (by kernel_rfl) (fun _ _ _ h => h) (Or.inl ⟨by rfl, fun w hSw => by go_simp⟩) hHeld ?_
                        simp only [Act.put, List.setIfInBounds_toArray, List.set_cons_zero, List.set_cons_succ]
                        refine wpAnyH_take (i := 7) (oi := ({ dst := some 99, op := Op.load 25 (Operand.tmp 98), type := 25, pos := "law.go:111", after := #[{ on := 6, ground := Ground.data }], guard := none } : Oper)) (v := .agg UY.toArray) rfl (by kernel_rfl) (by kernel_rfl) (by kernel_rfl) (fun _ _ _ h => h) (yieldsIf_load_mid (by rfl) _ _ rfl bY (oY + t * 32) rfl UY _ (fun _ h => h.2.1) hu rfl hiY) hHeld ?_
                        simp only [Act.put, List.setIfInBounds_toArray, List.set_cons_zero, List.set_cons_succ]
                        refine wpAnyH_take (i := 8) (oi := ({ dst := some 100, op := Op.binOp BinOp.eql 25 (Operand.tmp 95) (Operand.tmp 99) 25, type := 4, pos := "law.go:111", after := #[{ on := 3, ground := Ground.data }, { on := 7, ground := Ground.data }], guard := none } : Oper)) (v := .bool true) rfl (by kernel_rfl) (by kernel_rfl) (by kernel_rfl) (fun _ _ _ h => h) (Or.inl ⟨by rfl, fun w hSw => by go_simp⟩) hHeld ?_
                        simp only [Act.put, List.setIfInBounds_toArray, List.set_cons_zero, List.set_cons_succ]
                        refine wpAnyH_take (i := 9) (oi := ({ dst := some 101, op := Op.move (Operand.tmp 100), type := 4, pos := "law.go:111", after := #[{ on := 8, ground := Ground.data }], guard := none } : Oper)) (v := .bool true) rfl (by kernel_rfl) (by kernel_rfl) (by kernel_rfl) (fun _ _ _ h => h) (Or.inl ⟨by rfl, fun w hSw => by go_simp⟩) hHeld ?_
                        simp only [Act.put, List.setIfInBounds_toArray, List.set_cons_zero, List.set_cons_succ]
                        refine wpAnyH_take (i := 10) (oi := ({ dst := some 102, op := Op.move (Operand.tmp 8), type := 22, pos := "law.go:111", after := #[{ on := 9, ground := Ground.guard }], guard := some (9, true) } : Oper)) (v := .slice (some ⟨ba, oa, none⟩) l ca) rfl (by kernel_rfl) (by kernel_rfl) (by kernel_rfl) (fun _ _ _ h => h) (Or.inl ⟨by rfl, fun w hSw => by go_simp⟩) hHeld ?_
                        simp only [Act.put, List.setIfInBounds_toArray, List.set_cons_zero, List.set_cons_succ]
                        refine wpAnyH_take (i := 11) (oi := ({ dst := some 103, op := Op.move (Operand.tmp 12), type := 3, pos := "law.go:111", after := #[{ on := 9, ground := Ground.guard }], guard := some (9, true) } : Oper)) (v := .int .i64 (t : Int)) rfl (by kernel_rfl) (by kernel_rfl) (by kernel_rfl) (fun _ _ _ h => h) (Or.inl ⟨by rfl, fun w hSw => by go_simp⟩) hHeld ?_
                        simp only [Act.put, List.setIfInBounds_toArray, List.set_cons_zero, List.set_cons_succ]
                        refine wpAnyH_take (i := 12) (oi := ({ dst := some 104, op := Op.binOp BinOp.mul 3 (Operand.const (Value.int IntKind.i64 2)) (Operand.tmp 103) 3, type := 3, pos := "law.go:111", after := #[{ on := 11, ground := Ground.data }, { on := 9, ground := Ground.guard }], guard := some (9, true) } : Oper)) (v := .int .i64 (i0 : Int)) rfl (by kernel_rfl) (by kernel_rfl) (by kernel_rfl) (fun _ _ _ h => h) (Or.inl ⟨by rfl, fun w hSw => by go_simp⟩) hHeld ?_
                        simp only [Act.put, List.setIfInBounds_toArray, List.set_cons_zero, List.set_cons_succ]
                        refine wpAnyH_take (i := 13) (oi := ({ dst := some 105, op := Op.indexAddr 22 (Operand.tmp 102) (Operand.tmp 104), type := 0, pos := "law.go:111", after := #[{ on := 10, ground := Ground.data }, { on := 12, ground := Ground.data }, { on := 9, ground := Ground.guard }], guard := some (9, true) } : Oper)) (v := .pointer (some ⟨ba, oa + i0 * 32, none⟩)) rfl (by kernel_rfl) (by kernel_rfl) (by kernel_rfl) (fun _ _ _ h => h) (Or.inl ⟨by rfl, fun w hSw => by go_simp⟩) hHeld ?_
                        simp only [Act.put, List.setIfInBounds_toArray, List.set_cons_zero, List.set_cons_succ]
                        refine wpAnyH_take (i := 14) (oi := ({ dst := some 106, op := Op.load 25 (Operand.tmp 105), type := 25, pos := "law.go:111", after := #[{ on := 13, ground := Ground.data }, { on := 9, ground := Ground.guard }], guard := some (9, true) } : Oper)) (v := .agg PA.toArray) rfl (by kernel_rfl) (by kernel_rfl) (by kernel_rfl) (fun _ _ _ h => h) (yieldsIf_load_mid (by rfl) _ _ rfl ba (oa + i0 * 32) rfl PA _ (fun _ h => h.2.2.1) hu rfl hiPA) hHeld ?_
                        simp only [Act.put, List.setIfInBounds_toArray, List.set_cons_zero, List.set_cons_succ]
                        refine wpAnyH_take (i := 15) (oi := ({ dst := some 107, op := Op.move (Operand.tmp 9), type := 22, pos := "law.go:111", after := #[{ on := 9, ground := Ground.guard }], guard := some (9, true) } : Oper)) (v := .slice (some ⟨bb, ob, none⟩) l cb) rfl (by kernel_rfl) (by kernel_rfl) (by kernel_rfl) (fun _ _ _ h => h) (Or.inl ⟨by rfl, fun w hSw => by go_simp⟩) hHeld ?_
                        simp only [Act.put, List.setIfInBounds_toArray, List.set_cons_zero, List.set_cons_succ]
                        refine wpAnyH_take (i := 16) (oi := ({ dst := some 108, op := Op.move (Operand.tmp 12), type := 3, pos := "law.go:111", after := #[{ on := 9, ground := Ground.guard }], guard := some (9, true) } : Oper)) (v := .int .i64 (t : Int)) rfl (by kernel_rfl) (by kernel_rfl) (by kernel_rfl) (fun _ _ _ h => h) (Or.inl ⟨by rfl, fun w hSw => by go_simp⟩) hHeld ?_
                        simp only [Act.put, List.setIfInBounds_toArray, List.set_cons_zero, List.set_cons_succ]
                        refine wpAnyH_take (i := 17) (oi := ({ dst := some 109, op := Op.binOp BinOp.mul 3 (Operand.const (Value.int IntKind.i64 2)) (Operand.tmp 108) 3, type := 3, pos := "law.go:111", after := #[{ on := 16, ground := Ground.data }, { on := 9, ground := Ground.guard }], guard := some (9, true) } : Oper)) (v := .int .i64 (i0 : Int)) rfl (by kernel_rfl) (by kernel_rfl) (by kernel_rfl) (fun _ _ _ h => h) (Or.inl ⟨by rfl, fun w hSw => by go_simp⟩) hHeld ?_
                        simp only [Act.put, List.setIfInBounds_toArray, List.set_cons_zero, List.set_cons_succ]
                        refine wpAnyH_take (i := 18) (oi := ({ dst := some 110, op := Op.indexAddr 22 (Operand.tmp 107) (Operand.tmp 109), type := 0, pos := "law.go:111", after := #[{ on := 15, ground := Ground.data }, { on := 17, ground := Ground.data }, { on := 9, ground := Ground.guard }], guard := some (9, true) } : Oper)) (v := .pointer (some ⟨bb, ob + i0 * 32, none⟩)) rfl (by kernel_rfl) (by kernel_rfl) (by kernel_rfl) (fun _ _ _ h => h) (Or.inl ⟨by rfl, fun w hSw => by go_simp⟩) hHeld ?_
                        simp only [Act.put, List.setIfInBounds_toArray, List.set_cons_zero, List.set_cons_succ]
                        refine wpAnyH_take (i := 19) (oi := ({ dst := some 111, op := Op.load 25 (Operand.tmp 110), type := 25, pos := "law.go:111", after := #[{ on := 18, ground := Ground.data }, { on := 9, ground := Ground.guard }], guard := some (9, true) } : Oper)) (v := .agg PB.toArray) rfl (by kernel_rfl) (by kernel_rfl) (by kernel_rfl) (fun _ _ _ h => h) (yieldsIf_load_mid (by rfl) _ _ rfl bb (ob + i0 * 32) rfl PB _ (fun _ h => h.2.2.2.1) hu rfl hiPB) hHeld ?_
                        simp only [Act.put, List.setIfInBounds_toArray, List.set_cons_zero, List.set_cons_succ]
                        refine wpAnyH_take (i := 20) (oi := ({ dst := some 112, op := Op.binOp BinOp.neq 25 (Operand.tmp 106) (Operand.tmp 111) 25, type := 4, pos := "law.go:111", after := #[{ on := 14, ground := Ground.data }, { on := 19, ground := Ground.data }, { on := 9, ground := Ground.guard }], guard := some (9, true) } : Oper)) (v := .bool false) rfl (by kernel_rfl) (by kernel_rfl) (by kernel_rfl) (fun _ _ _ h => h) (Or.inl ⟨by rfl, fun w hSw => by go_simp⟩) hHeld ?_
                        simp only [Act.put, List.setIfInBounds_toArray, List.set_cons_zero, List.set_cons_succ]
                        refine wpAnyH_take (i := 21) (oi := ({ dst := some 113, op := Op.move (Operand.tmp 112), type := 4, pos := "law.go:111", after := #[{ on := 20, ground := Ground.data }, { on := 9, ground := Ground.chain }, { on := 9, ground := Ground.guard }], guard := some (9, true) } : Oper)) (v := .bool false) rfl (by kernel_rfl) (by kernel_rfl) (by kernel_rfl) (fun _ _ _ h => h) (Or.inl ⟨by rfl, fun w hSw => by go_simp⟩) hHeld ?_
                        simp only [Act.put, List.setIfInBounds_toArray, List.set_cons_zero, List.set_cons_succ]
                        refine wpAnyH_take (i := 22) (oi := ({ dst := some 114, op := Op.move (Operand.tmp 8), type := 22, pos := "law.go:111", after := #[{ on := 21, ground := Ground.guard }], guard := some (21, false) } : Oper)) (v := .slice (some ⟨ba, oa, none⟩) l ca) rfl (by kernel_rfl) (by kernel_rfl) (by kernel_rfl) (fun _ _ _ h => h) (Or.inl ⟨by rfl, fun w hSw => by go_simp⟩) hHeld ?_
                        simp only [Act.put, List.setIfInBounds_toArray, List.set_cons_zero, List.set_cons_succ]
                        refine wpAnyH_take (i := 23) (oi := ({ dst := some 115, op := Op.move (Operand.tmp 13), type := 3, pos := "law.go:111", after := #[{ on := 21, ground := Ground.guard }], guard := some (21, false) } : Oper)) (v := .int .i64 (jj : Int)) rfl (by kernel_rfl) (by kernel_rfl) (by kernel_rfl) (fun _ _ _ h => h) (Or.inl ⟨by rfl, fun w hSw => by go_simp⟩) hHeld ?_
                        simp only [Act.put, List.setIfInBounds_toArray, List.set_cons_zero, List.set_cons_succ]
                        refine wpAnyH_take (i := 24) (oi := ({ dst := some 116, op := Op.indexAddr 22 (Operand.tmp 114) (Operand.tmp 115), type := 0, pos := "law.go:111", after := #[{ on := 22, ground := Ground.data }, { on := 23, ground := Ground.data }, { on := 21, ground := Ground.guard }], guard := some (21, false) } : Oper)) (v := .pointer (some ⟨ba, oa + jj * 32, none⟩)) rfl (by kernel_rfl) (by kernel_rfl) (by kernel_rfl) (fun _ _ _ h => h) (Or.inl ⟨by rfl, fun w hSw => by go_simp⟩) hHeld ?_
                        simp only [Act.put, List.setIfInBounds_toArray, List.set_cons_zero, List.set_cons_succ]
                        refine wpAnyH_take (i := 25) (oi := ({ dst := some 117, op := Op.load 25 (Operand.tmp 116), type := 25, pos := "law.go:111", after := #[{ on := 24, ground := Ground.data }, { on := 21, ground := Ground.guard }], guard := some (21, false) } : Oper)) (v := .agg QA.toArray) rfl (by kernel_rfl) (by kernel_rfl) (by kernel_rfl) (fun _ _ _ h => h) (yieldsIf_load_mid (by rfl) _ _ rfl ba (oa + jj * 32) rfl QA _ (fun _ h => h.2.2.2.2.1) hu rfl hiQA) hHeld ?_
                        simp only [Act.put, List.setIfInBounds_toArray, List.set_cons_zero, List.set_cons_succ]
                        refine wpAnyH_take (i := 26) (oi := ({ dst := some 118, op := Op.move (Operand.tmp 9), type := 22, pos := "law.go:111", after := #[{ on := 21, ground := Ground.guard }], guard := some (21, false) } : Oper)) (v := .slice (some ⟨bb, ob, none⟩) l cb) rfl (by kernel_rfl) (by kernel_rfl) (by kernel_rfl) (fun _ _ _ h => h) (Or.inl ⟨by rfl, fun w hSw => by go_simp⟩) hHeld ?_
                        simp only [Act.put, List.setIfInBounds_toArray, List.set_cons_zero, List.set_cons_succ]
                        refine wpAnyH_take (i := 27) (oi := ({ dst := some 119, op := Op.move (Operand.tmp 14), type := 3, pos := "law.go:111", after := #[{ on := 21, ground := Ground.guard }], guard := some (21, false) } : Oper)) (v := .int .i64 (jj : Int)) rfl (by kernel_rfl) (by kernel_rfl) (by kernel_rfl) (fun _ _ _ h => h) (Or.inl ⟨by rfl, fun w hSw => by go_simp⟩) hHeld ?_
                        simp only [Act.put, List.setIfInBounds_toArray, List.set_cons_zero, List.set_cons_succ]
                        refine wpAnyH_take (i := 28) (oi := ({ dst := some 120, op := Op.indexAddr 22 (Operand.tmp 118) (Operand.tmp 119), type := 0, pos := "law.go:111", after := #[{ on := 26, ground := Ground.data }, { on := 27, ground := Ground.data }, { on := 21, ground := Ground.guard }], guard := some (21, false) } : Oper)) (v := .pointer (some ⟨bb, ob + jj * 32, none⟩)) rfl (by kernel_rfl) (by kernel_rfl) (by kernel_rfl) (fun _ _ _ h => h) (Or.inl ⟨by rfl, fun w hSw => by go_simp⟩) hHeld ?_
                        simp only [Act.put, List.setIfInBounds_toArray, List.set_cons_zero, List.set_cons_succ]
                        refine wpAnyH_take (i := 29) (oi := ({ dst := some 121, op := Op.load 25 (Operand.tmp 120), type := 25, pos := "law.go:111", after := #[{ on := 28, ground := Ground.data }, { on := 21, ground := Ground.guard }], guard := some (21, false) } : Oper)) (v := .agg QB.toArray) rfl (by kernel_rfl) (by kernel_rfl) (by kernel_rfl) (fun _ _ _ h => h) (yieldsIf_load_mid (by rfl) _ _ rfl bb (ob + jj * 32) rfl QB _ (fun _ h => h.2.2.2.2.2) hu rfl hiQB) hHeld ?_
                        simp only [Act.put, List.setIfInBounds_toArray, List.set_cons_zero, List.set_cons_succ]
                        refine wpAnyH_take (i := 30) (oi := ({ dst := some 122, op := Op.binOp BinOp.neq 25 (Operand.tmp 117) (Operand.tmp 121) 25, type := 4, pos := "law.go:111", after := #[{ on := 25, ground := Ground.data }, { on := 29, ground := Ground.data }, { on := 21, ground := Ground.guard }], guard := some (21, false) } : Oper)) (v := .bool false) rfl (by kernel_rfl) (by kernel_rfl) (by kernel_rfl) (fun _ _ _ h => h) (Or.inl ⟨by rfl, fun w hSw => by go_simp⟩) hHeld ?_
                        simp only [Act.put, List.setIfInBounds_toArray, List.set_cons_zero, List.set_cons_succ]
                        refine wpAnyH_take (i := 31) (oi := ({ dst := some 123, op := Op.pick (Operand.tmp 113) (Operand.const (Value.bool true)) (Operand.tmp 122), type := 4, pos := "law.go:111", after := #[{ on := 21, ground := Ground.data }, { on := 30, ground := Ground.data }, { on := 9, ground := Ground.guard }], guard := some (9, true) } : Oper)) (v := .bool false) rfl (by kernel_rfl) (by kernel_rfl) (by kernel_rfl) (fun _ _ _ h => h) (Or.inl ⟨by rfl, fun w hSw => by go_simp⟩) hHeld ?_
                        simp only [Act.put, List.setIfInBounds_toArray, List.set_cons_zero, List.set_cons_succ]
                        refine wpAnyH_take (i := 32) (oi := ({ dst := some 124, op := Op.pick (Operand.tmp 101) (Operand.tmp 123) (Operand.const (Value.bool false)), type := 4, pos := "law.go:111", after := #[{ on := 9, ground := Ground.data }, { on := 31, ground := Ground.data }], guard := none } : Oper)) (v := .bool false) rfl (by kernel_rfl) (by kernel_rfl) (by kernel_rfl) (fun _ _ _ h => h) (Or.inl ⟨by rfl, fun w hSw => by go_simp⟩) hHeld ?_
                        simp only [Act.put, List.setIfInBounds_toArray, List.set_cons_zero, List.set_cons_succ]
                        refine wpAnyH_done (by kernel_rfl) ?_ _
                        clear qx qp qq hiX hiY hiPA hiPB hiQA hiQB hHeld
                        go_wp2_with fail
                        rw [HWS.out]
                        go_roundw
                        case rel => exact ⟨t + 1, HG.out, rfl, Lib.hid ⟨below_drew HB2.out, HOKT.out⟩⟩
                        case measure => simp only [intOf, Int.toNat_natCast]; exact HME.out
                    · rw [ex] at qx
                      rw [ep] at qp
                      rw [Bool.eq_false_iff.2 eq2] at qq
                      clear ex ep eq2 HSUC HPK
                      as_aux_lemma =>
                        go_wp2_with fail
                        have hHeld := HS.out _ (below_drew HB2.out)
                        refine wp_region_held (S := fun u => u.rangeAt bx (ox + t * 32) UX ∧ u.rangeAt bY (oY + t * 32) UY ∧ u.rangeAt ba (oa + i0 * 32) PA ∧ u.rangeAt bb (ob + i0 * 32) PB ∧ u.rangeAt ba (oa + jj * 32) QA ∧ u.rangeAt bb (ob + jj * 32) QB) (by kernel_rfl) ?_
                        change wpAnyH _ _ _ _ _ _ _ _ (World.drew _)
                        refine wpAnyH_take (i := 0) (oi := ({ dst := some 92, op := Op.move (Operand.tmp 10), type := 22, pos := "law.go:111", after := #[], guard := none } : Oper)) (v := .slice (some ⟨bx, ox, none⟩) m cx) rfl (by kernel_rfl) (by kernel_rfl) (by kernel_rfl) (fun _ _ _ h => h) (Or.inl ⟨by rfl, fun w hSw => by go_simp⟩) hHeld ?_
                        simp only [Act.put, List.setIfInBounds_toArray, List.set_cons_zero, List.set_cons_succ]
                        refine wpAnyH_take (i := 1) (oi := ({ dst := some 93, op := Op.move (Operand.tmp 12), type := 3, pos := "law.go:111", after := #[], guard := none } : Oper)) (v := .int .i64 (t : Int)) rfl (by kernel_rfl) (by kernel_rfl) (by kernel_rfl) (fun _ _ _ h => h) (Or.inl ⟨by rfl, fun w hSw => by go_simp⟩) hHeld ?_
                        simp only [Act.put, List.setIfInBounds_toArray, List.set_cons_zero, List.set_cons_succ]
                        refine wpAnyH_take (i := 2) (oi := ({ dst := some 94, op := Op.indexAddr 22 (Operand.tmp 92) (Operand.tmp 93), type := 0, pos := "law.go:111", after := #[{ on := 0, ground := Ground.data }, { on := 1, ground := Ground.data }], guard := none } : Oper)) (v := .pointer (some ⟨bx, ox + t * 32, none⟩)) rfl (by kernel_rfl) (by kernel_rfl) (by kernel_rfl) (fun _ _ _ h => h) (Or.inl ⟨by rfl, fun w hSw => by go_simp⟩) hHeld ?_
                        simp only [Act.put, List.setIfInBounds_toArray, List.set_cons_zero, List.set_cons_succ]
                        refine wpAnyH_take (i := 3) (oi := ({ dst := some 95, op := Op.load 25 (Operand.tmp 94), type := 25, pos := "law.go:111", after := #[{ on := 2, ground := Ground.data }], guard := none } : Oper)) (v := .agg UX.toArray) rfl (by kernel_rfl) (by kernel_rfl) (by kernel_rfl) (fun _ _ _ h => h) (yieldsIf_load_mid (by rfl) _ _ rfl bx (ox + t * 32) rfl UX _ (fun _ h => h.1) hu rfl hiX) hHeld ?_
                        simp only [Act.put, List.setIfInBounds_toArray, List.set_cons_zero, List.set_cons_succ]
                        refine wpAnyH_take (i := 4) (oi := ({ dst := some 96, op := Op.move (Operand.tmp 11), type := 22, pos := "law.go:111", after := #[], guard := none } : Oper)) (v := .slice (some ⟨bY, oY, none⟩) m cY) rfl (by kernel_rfl) (by kernel_rfl) (by kernel_rfl) (fun _ _ _ h => h) (Or.inl ⟨by rfl, fun w hSw => by go_simp⟩) hHeld ?_
                        simp only [Act.put, List.setIfInBounds_toArray, List.set_cons_zero, List.set_cons_succ]
                        refine wpAnyH_take (i := 5) (oi := ({ dst := some 97, op := Op.move (Operand.tmp 12), type := 3, pos := "law.go:111", after := #[], guard := none } : Oper)) (v := .int .i64 (t : Int)) rfl (by kernel_rfl) (by kernel_rfl) (by kernel_rfl) (fun _ _ _ h => h) (Or.inl ⟨by rfl, fun w hSw => by go_simp⟩) hHeld ?_
                        simp only [Act.put, List.setIfInBounds_toArray, List.set_cons_zero, List.set_cons_succ]
                        refine wpAnyH_take (i := 6) (oi := ({ dst := some 98, op := Op.indexAddr 22 (Operand.tmp 96) (Operand.tmp 97), type := 0, pos := "law.go:111", after := #[{ on := 4, ground := Ground.data }, { on := 5, ground := Ground.data }], guard := none } : Oper)) (v := .pointer (some ⟨bY, oY + t * 32, none⟩)) rfl (by kernel_rfl) (by kernel_rfl) (by kernel_rfl) (fun _ _ _ h => h) (Or.inl ⟨by rfl, fun w hSw => by go_simp⟩) hHeld ?_
                        simp only [Act.put, List.setIfInBounds_toArray, List.set_cons_zero, List.set_cons_succ]
                        refine wpAnyH_take (i := 7) (oi := ({ dst := some 99, op := Op.load 25 (Operand.tmp 98), type := 25, pos := "law.go:111", after := #[{ on := 6, ground := Ground.data }], guard := none } : Oper)) (v := .agg UY.toArray) rfl (by kernel_rfl) (by kernel_rfl) (by kernel_rfl) (fun _ _ _ h => h) (yieldsIf_load_mid (by rfl) _ _ rfl bY (oY + t * 32) rfl UY _ (fun _ h => h.2.1) hu rfl hiY) hHeld ?_
                        simp only [Act.put, List.setIfInBounds_toArray, List.set_cons_zero, List.set_cons_succ]
                        refine wpAnyH_take (i := 8) (oi := ({ dst := some 100, op := Op.binOp BinOp.eql 25 (Operand.tmp 95) (Operand.tmp 99) 25, type := 4, pos := "law.go:111", after := #[{ on := 3, ground := Ground.data }, { on := 7, ground := Ground.data }], guard := none } : Oper)) (v := .bool true) rfl (by kernel_rfl) (by kernel_rfl) (by kernel_rfl) (fun _ _ _ h => h) (Or.inl ⟨by rfl, fun w hSw => by go_simp⟩) hHeld ?_
                        simp only [Act.put, List.setIfInBounds_toArray, List.set_cons_zero, List.set_cons_succ]
                        refine wpAnyH_take (i := 9) (oi := ({ dst := some 101, op := Op.move (Operand.tmp 100), type := 4, pos := "law.go:111", after := #[{ on := 8, ground := Ground.data }], guard := none } : Oper)) (v := .bool true) rfl (by kernel_rfl) (by kernel_rfl) (by kernel_rfl) (fun _ _ _ h => h) (Or.inl ⟨by rfl, fun w hSw => by go_simp⟩) hHeld ?_
                        simp only [Act.put, List.setIfInBounds_toArray, List.set_cons_zero, List.set_cons_succ]
                        refine wpAnyH_take (i := 10) (oi := ({ dst := some 102, op := Op.move (Operand.tmp 8), type := 22, pos := "law.go:111", after := #[{ on := 9, ground := Ground.guard }], guard := some (9, true) } : Oper)) (v := .slice (some ⟨ba, oa, none⟩) l ca) rfl (by kernel_rfl) (by kernel_rfl) (by kernel_rfl) (fun _ _ _ h => h) (Or.inl ⟨by rfl, fun w hSw => by go_simp⟩) hHeld ?_
                        simp only [Act.put, List.setIfInBounds_toArray, List.set_cons_zero, List.set_cons_succ]
                        refine wpAnyH_take (i := 11) (oi := ({ dst := some 103, op := Op.move (Operand.tmp 12), type := 3, pos := "law.go:111", after := #[{ on := 9, ground := Ground.guard }], guard := some (9, true) } : Oper)) (v := .int .i64 (t : Int)) rfl (by kernel_rfl) (by kernel_rfl) (by kernel_rfl) (fun _ _ _ h => h) (Or.inl ⟨by rfl, fun w hSw => by go_simp⟩) hHeld ?_
                        simp only [Act.put, List.setIfInBounds_toArray, List.set_cons_zero, List.set_cons_succ]
                        refine wpAnyH_take (i := 12) (oi := ({ dst := some 104, op := Op.binOp BinOp.mul 3 (Operand.const (Value.int IntKind.i64 2)) (Operand.tmp 103) 3, type := 3, pos := "law.go:111", after := #[{ on := 11, ground := Ground.data }, { on := 9, ground := Ground.guard }], guard := some (9, true) } : Oper)) (v := .int .i64 (i0 : Int)) rfl (by kernel_rfl) (by kernel_rfl) (by kernel_rfl) (fun _ _ _ h => h) (Or.inl ⟨by rfl, fun w hSw => by go_simp⟩) hHeld ?_
                        simp only [Act.put, List.setIfInBounds_toArray, List.set_cons_zero, List.set_cons_succ]
                        refine wpAnyH_take (i := 13) (oi := ({ dst := some 105, op := Op.indexAddr 22 (Operand.tmp 102) (Operand.tmp 104), type := 0, pos := "law.go:111", after := #[{ on := 10, ground := Ground.data }, { on := 12, ground := Ground.data }, { on := 9, ground := Ground.guard }], guard := some (9, true) } : Oper)) (v := .pointer (some ⟨ba, oa + i0 * 32, none⟩)) rfl (by kernel_rfl) (by kernel_rfl) (by kernel_rfl) (fun _ _ _ h => h) (Or.inl ⟨by rfl, fun w hSw => by go_simp⟩) hHeld ?_
                        simp only [Act.put, List.setIfInBounds_toArray, List.set_cons_zero, List.set_cons_succ]
                        refine wpAnyH_take (i := 14) (oi := ({ dst := some 106, op := Op.load 25 (Operand.tmp 105), type := 25, pos := "law.go:111", after := #[{ on := 13, ground := Ground.data }, { on := 9, ground := Ground.guard }], guard := some (9, true) } : Oper)) (v := .agg PA.toArray) rfl (by kernel_rfl) (by kernel_rfl) (by kernel_rfl) (fun _ _ _ h => h) (yieldsIf_load_mid (by rfl) _ _ rfl ba (oa + i0 * 32) rfl PA _ (fun _ h => h.2.2.1) hu rfl hiPA) hHeld ?_
                        simp only [Act.put, List.setIfInBounds_toArray, List.set_cons_zero, List.set_cons_succ]
                        refine wpAnyH_take (i := 15) (oi := ({ dst := some 107, op := Op.move (Operand.tmp 9), type := 22, pos := "law.go:111", after := #[{ on := 9, ground := Ground.guard }], guard := some (9, true) } : Oper)) (v := .slice (some ⟨bb, ob, none⟩) l cb) rfl (by kernel_rfl) (by kernel_rfl) (by kernel_rfl) (fun _ _ _ h => h) (Or.inl ⟨by rfl, fun w hSw => by go_simp⟩) hHeld ?_
                        simp only [Act.put, List.setIfInBounds_toArray, List.set_cons_zero, List.set_cons_succ]
                        refine wpAnyH_take (i := 16) (oi := ({ dst := some 108, op := Op.move (Operand.tmp 12), type := 3, pos := "law.go:111", after := #[{ on := 9, ground := Ground.guard }], guard := some (9, true) } : Oper)) (v := .int .i64 (t : Int)) rfl (by kernel_rfl) (by kernel_rfl) (by kernel_rfl) (fun _ _ _ h => h) (Or.inl ⟨by rfl, fun w hSw => by go_simp⟩) hHeld ?_
                        simp only [Act.put, List.setIfInBounds_toArray, List.set_cons_zero, List.set_cons_succ]
                        refine wpAnyH_take (i := 17) (oi := ({ dst := some 109, op := Op.binOp BinOp.mul 3 (Operand.const (Value.int IntKind.i64 2)) (Operand.tmp 108) 3, type := 3, pos := "law.go:111", after := #[{ on := 16, ground := Ground.data }, { on := 9, ground := Ground.guard }], guard := some (9, true) } : Oper)) (v := .int .i64 (i0 : Int)) rfl (by kernel_rfl) (by kernel_rfl) (by kernel_rfl) (fun _ _ _ h => h) (Or.inl ⟨by rfl, fun w hSw => by go_simp⟩) hHeld ?_
                        simp only [Act.put, List.setIfInBounds_toArray, List.set_cons_zero, List.set_cons_succ]
                        refine wpAnyH_take (i := 18) (oi := ({ dst := some 110, op := Op.indexAddr 22 (Operand.tmp 107) (Operand.tmp 109), type := 0, pos := "law.go:111", after := #[{ on := 15, ground := Ground.data }, { on := 17, ground := Ground.data }, { on := 9, ground := Ground.guard }], guard := some (9, true) } : Oper)) (v := .pointer (some ⟨bb, ob + i0 * 32, none⟩)) rfl (by kernel_rfl) (by kernel_rfl) (by kernel_rfl) (fun _ _ _ h => h) (Or.inl ⟨by rfl, fun w hSw => by go_simp⟩) hHeld ?_
                        simp only [Act.put, List.setIfInBounds_toArray, List.set_cons_zero, List.set_cons_succ]
                        refine wpAnyH_take (i := 19) (oi := ({ dst := some 111, op := Op.load 25 (Operand.tmp 110), type := 25, pos := "law.go:111", after := #[{ on := 18, ground := Ground.data }, { on := 9, ground := Ground.guard }], guard := some (9, true) } : Oper)) (v := .agg PB.toArray) rfl (by kernel_rfl) (by kernel_rfl) (by kernel_rfl) (fun _ _ _ h => h) (yieldsIf_load_mid (by rfl) _ _ rfl bb (ob + i0 * 32) rfl PB _ (fun _ h => h.2.2.2.1) hu rfl hiPB) hHeld ?_
                        simp only [Act.put, List.setIfInBounds_toArray, List.set_cons_zero, List.set_cons_succ]
                        refine wpAnyH_take (i := 20) (oi := ({ dst := some 112, op := Op.binOp BinOp.neq 25 (Operand.tmp 106) (Operand.tmp 111) 25, type := 4, pos := "law.go:111", after := #[{ on := 14, ground := Ground.data }, { on := 19, ground := Ground.data }, { on := 9, ground := Ground.guard }], guard := some (9, true) } : Oper)) (v := .bool false) rfl (by kernel_rfl) (by kernel_rfl) (by kernel_rfl) (fun _ _ _ h => h) (Or.inl ⟨by rfl, fun w hSw => by go_simp⟩) hHeld ?_
                        simp only [Act.put, List.setIfInBounds_toArray, List.set_cons_zero, List.set_cons_succ]
                        refine wpAnyH_take (i := 21) (oi := ({ dst := some 113, op := Op.move (Operand.tmp 112), type := 4, pos := "law.go:111", after := #[{ on := 20, ground := Ground.data }, { on := 9, ground := Ground.chain }, { on := 9, ground := Ground.guard }], guard := some (9, true) } : Oper)) (v := .bool false) rfl (by kernel_rfl) (by kernel_rfl) (by kernel_rfl) (fun _ _ _ h => h) (Or.inl ⟨by rfl, fun w hSw => by go_simp⟩) hHeld ?_
                        simp only [Act.put, List.setIfInBounds_toArray, List.set_cons_zero, List.set_cons_succ]
                        refine wpAnyH_take (i := 22) (oi := ({ dst := some 114, op := Op.move (Operand.tmp 8), type := 22, pos := "law.go:111", after := #[{ on := 21, ground := Ground.guard }], guard := some (21, false) } : Oper)) (v := .slice (some ⟨ba, oa, none⟩) l ca) rfl (by kernel_rfl) (by kernel_rfl) (by kernel_rfl) (fun _ _ _ h => h) (Or.inl ⟨by rfl, fun w hSw => by go_simp⟩) hHeld ?_
                        simp only [Act.put, List.setIfInBounds_toArray, List.set_cons_zero, List.set_cons_succ]
                        refine wpAnyH_take (i := 23) (oi := ({ dst := some 115, op := Op.move (Operand.tmp 13), type := 3, pos := "law.go:111", after := #[{ on := 21, ground := Ground.guard }], guard := some (21, false) } : Oper)) (v := .int .i64 (jj : Int)) rfl (by kernel_rfl) (by kernel_rfl) (by kernel_rfl) (fun _ _ _ h => h) (Or.inl ⟨by rfl, fun w hSw => by go_simp⟩) hHeld ?_
                        simp only [Act.put, List.setIfInBounds_toArray, List.set_cons_zero, List.set_cons_succ]
                        refine wpAnyH_take (i := 24) (oi := ({ dst := some 116, op := Op.indexAddr 22 (Operand.tmp 114) (Operand.tmp 115), type := 0, pos := "law.go:111", after := #[{ on := 22, ground := Ground.data }, { on := 23, ground := Ground.data }, { on := 21, ground := Ground.guard }], guard := some (21, false) } : Oper)) (v := .pointer (some ⟨ba, oa + jj * 32, none⟩)) rfl (by kernel_rfl) (by kernel_rfl) (by kernel_rfl) (fun _ _ _ h => h) (Or.inl ⟨by rfl, fun w hSw => by go_simp⟩) hHeld ?_
                        simp only [Act.put, List.setIfInBounds_toArray, List.set_cons_zero, List.set_cons_succ]
                        refine wpAnyH_take (i := 25) (oi := ({ dst := some 117, op := Op.load 25 (Operand.tmp 116), type := 25, pos := "law.go:111", after := #[{ on := 24, ground := Ground.data }, { on := 21, ground := Ground.guard }], guard := some (21, false) } : Oper)) (v := .agg QA.toArray) rfl (by kernel_rfl) (by kernel_rfl) (by kernel_rfl) (fun _ _ _ h => h) (yieldsIf_load_mid (by rfl) _ _ rfl ba (oa + jj * 32) rfl QA _ (fun _ h => h.2.2.2.2.1) hu rfl hiQA) hHeld ?_
                        simp only [Act.put, List.setIfInBounds_toArray, List.set_cons_zero, List.set_cons_succ]
                        refine wpAnyH_take (i := 26) (oi := ({ dst := some 118, op := Op.move (Operand.tmp 9), type := 22, pos := "law.go:111", after := #[{ on := 21, ground := Ground.guard }], guard := some (21, false) } : Oper)) (v := .slice (some ⟨bb, ob, none⟩) l cb) rfl (by kernel_rfl) (by kernel_rfl) (by kernel_rfl) (fun _ _ _ h => h) (Or.inl ⟨by rfl, fun w hSw => by go_simp⟩) hHeld ?_
                        simp only [Act.put, List.setIfInBounds_toArray, List.set_cons_zero, List.set_cons_succ]
                        refine wpAnyH_take (i := 27) (oi := ({ dst := some 119, op := Op.move (Operand.tmp 14), type := 3, pos := "law.go:111", after := #[{ on := 21, ground := Ground.guard }], guard := some (21, false) } : Oper)) (v := .int .i64 (jj : Int)) rfl (by kernel_rfl) (by kernel_rfl) (by kernel_rfl) (fun _ _ _ h => h) (Or.inl ⟨by rfl, fun w hSw => by go_simp⟩) hHeld ?_
                        simp only [Act.put, List.setIfInBounds_toArray, List.set_cons_zero, List.set_cons_succ]
                        refine wpAnyH_take (i := 28) (oi := ({ dst := some 120, op := Op.indexAddr 22 (Operand.tmp 118) (Operand.tmp 119), type := 0, pos := "law.go:111", after := #[{ on := 26, ground := Ground.data }, { on := 27, ground := Ground.data }, { on := 21, ground := Ground.guard }], guard := some (21, false) } : Oper)) (v := .pointer (some ⟨bb, ob + jj * 32, none⟩)) rfl (by kernel_rfl) (by kernel_rfl) (by kernel_rfl) (fun _ _ _ h => h) (Or.inl ⟨by rfl, fun w hSw => by go_simp⟩) hHeld ?_
                        simp only [Act.put, List.setIfInBounds_toArray, List.set_cons_zero, List.set_cons_succ]
                        refine wpAnyH_take (i := 29) (oi := ({ dst := some 121, op := Op.load 25 (Operand.tmp 120), type := 25, pos := "law.go:111", after := #[{ on := 28, ground := Ground.data }, { on := 21, ground := Ground.guard }], guard := some (21, false) } : Oper)) (v := .agg QB.toArray) rfl (by kernel_rfl) (by kernel_rfl) (by kernel_rfl) (fun _ _ _ h => h) (yieldsIf_load_mid (by rfl) _ _ rfl bb (ob + jj * 32) rfl QB _ (fun _ h => h.2.2.2.2.2) hu rfl hiQB) hHeld ?_
                        simp only [Act.put, List.setIfInBounds_toArray, List.set_cons_zero, List.set_cons_succ]
                        refine wpAnyH_take (i := 30) (oi := ({ dst := some 122, op := Op.binOp BinOp.neq 25 (Operand.tmp 117) (Operand.tmp 121) 25, type := 4, pos := "law.go:111", after := #[{ on := 25, ground := Ground.data }, { on := 29, ground := Ground.data }, { on := 21, ground := Ground.guard }], guard := some (21, false) } : Oper)) (v := .bool true) rfl (by kernel_rfl) (by kernel_rfl) (by kernel_rfl) (fun _ _ _ h => h) (Or.inl ⟨by rfl, fun w hSw => by go_simp⟩) hHeld ?_
                        simp only [Act.put, List.setIfInBounds_toArray, List.set_cons_zero, List.set_cons_succ]
                        refine wpAnyH_take (i := 31) (oi := ({ dst := some 123, op := Op.pick (Operand.tmp 113) (Operand.const (Value.bool true)) (Operand.tmp 122), type := 4, pos := "law.go:111", after := #[{ on := 21, ground := Ground.data }, { on := 30, ground := Ground.data }, { on := 9, ground := Ground.guard }], guard := some (9, true) } : Oper)) (v := .bool true) rfl (by kernel_rfl) (by kernel_rfl) (by kernel_rfl) (fun _ _ _ h => h) (Or.inl ⟨by rfl, fun w hSw => by go_simp⟩) hHeld ?_
                        simp only [Act.put, List.setIfInBounds_toArray, List.set_cons_zero, List.set_cons_succ]
                        refine wpAnyH_take (i := 32) (oi := ({ dst := some 124, op := Op.pick (Operand.tmp 101) (Operand.tmp 123) (Operand.const (Value.bool false)), type := 4, pos := "law.go:111", after := #[{ on := 9, ground := Ground.data }, { on := 31, ground := Ground.data }], guard := none } : Oper)) (v := .bool true) rfl (by kernel_rfl) (by kernel_rfl) (by kernel_rfl) (fun _ _ _ h => h) (Or.inl ⟨by rfl, fun w hSw => by go_simp⟩) hHeld ?_
                        simp only [Act.put, List.setIfInBounds_toArray, List.set_cons_zero, List.set_cons_succ]
                        refine wpAnyH_done (by kernel_rfl) ?_ _
                        clear qx qp qq hiX hiY hiPA hiPB hiQA hiQB hHeld
                        go_wp2_with fail
                        have HW2 := Lib.hid (HBW2.out.trans (Below.mono (below_drew HB2.out) HBW2.out.size))
                        refine (HAW.out _ HW2.out).mono ?_
                        rintro e wz ⟨rfl, hbz⟩
                        have HZ := Lib.hid (HW2.out.trans (Below.mono hbz HW2.out.size))
                        clear hbz
                        go_wp2_with fail
                        go_ret
                        exact ⟨rfl, HZ.out⟩
                  · rw [ex] at qx
                    rw [Bool.eq_false_iff.2 ep] at qp
                    clear ex ep HSUC HPK
                    as_aux_lemma =>
                      go_wp2_with fail
                      have hHeld := HS.out _ (below_drew HB2.out)
                      refine wp_region_held (S := fun u => u.rangeAt bx (ox + t * 32) UX ∧ u.rangeAt bY (oY + t * 32) UY ∧ u.rangeAt ba (oa + i0 * 32) PA ∧ u.rangeAt bb (ob + i0 * 32) PB ∧ u.rangeAt ba (oa + jj * 32) QA ∧ u.rangeAt bb (ob + jj * 32) QB) (by kernel_rfl) ?_
                      change wpAnyH _ _ _ _ _ _ _ _ (World.drew _)
                      refine wpAnyH_take (i := 0) (oi := ({ dst := some 92, op := Op.move (Operand.tmp 10), type := 22, pos := "law.go:111", after := #[], guard := none } : Oper)) (v := .slice (some ⟨bx, ox, none⟩) m cx) rfl (by kernel_rfl) (by kernel_rfl) (by kernel_rfl) (fun _ _ _ h => h) (Or.inl ⟨by rfl, fun w hSw => by go_simp⟩) hHeld ?_
                      simp only [Act.put, List.setIfInBounds_toArray, List.set_cons_zero, List.set_cons_succ]
                      refine wpAnyH_take (i := 1) (oi := ({ dst := some 93, op := Op.move (Operand.tmp 12), type := 3, pos := "law.go:111", after := #[], guard := none } : Oper)) (v := .int .i64 (t : Int)) rfl (by kernel_rfl) (by kernel_rfl) (by kernel_rfl) (fun _ _ _ h => h) (Or.inl ⟨by rfl, fun w hSw => by go_simp⟩) hHeld ?_
                      simp only [Act.put, List.setIfInBounds_toArray, List.set_cons_zero, List.set_cons_succ]
                      refine wpAnyH_take (i := 2) (oi := ({ dst := some 94, op := Op.indexAddr 22 (Operand.tmp 92) (Operand.tmp 93), type := 0, pos := "law.go:111", after := #[{ on := 0, ground := Ground.data }, { on := 1, ground := Ground.data }], guard := none } : Oper)) (v := .pointer (some ⟨bx, ox + t * 32, none⟩)) rfl (by kernel_rfl) (by kernel_rfl) (by kernel_rfl) (fun _ _ _ h => h) (Or.inl ⟨by rfl, fun w hSw => by go_simp⟩) hHeld ?_
                      simp only [Act.put, List.setIfInBounds_toArray, List.set_cons_zero, List.set_cons_succ]
                      refine wpAnyH_take (i := 3) (oi := ({ dst := some 95, op := Op.load 25 (Operand.tmp 94), type := 25, pos := "law.go:111", after := #[{ on := 2, ground := Ground.data }], guard := none } : Oper)) (v := .agg UX.toArray) rfl (by kernel_rfl) (by kernel_rfl) (by kernel_rfl) (fun _ _ _ h => h) (yieldsIf_load_mid (by rfl) _ _ rfl bx (ox + t * 32) rfl UX _ (fun _ h => h.1) hu rfl hiX) hHeld ?_
                      simp only [Act.put, List.setIfInBounds_toArray, List.set_cons_zero, List.set_cons_succ]
                      refine wpAnyH_take (i := 4) (oi := ({ dst := some 96, op := Op.move (Operand.tmp 11), type := 22, pos := "law.go:111", after := #[], guard := none } : Oper)) (v := .slice (some ⟨bY, oY, none⟩) m cY) rfl (by kernel_rfl) (by kernel_rfl) (by kernel_rfl) (fun _ _ _ h => h) (Or.inl ⟨by rfl, fun w hSw => by go_simp⟩) hHeld ?_
                      simp only [Act.put, List.setIfInBounds_toArray, List.set_cons_zero, List.set_cons_succ]
                      refine wpAnyH_take (i := 5) (oi := ({ dst := some 97, op := Op.move (Operand.tmp 12), type := 3, pos := "law.go:111", after := #[], guard := none } : Oper)) (v := .int .i64 (t : Int)) rfl (by kernel_rfl) (by kernel_rfl) (by kernel_rfl) (fun _ _ _ h => h) (Or.inl ⟨by rfl, fun w hSw => by go_simp⟩) hHeld ?_
                      simp only [Act.put, List.setIfInBounds_toArray, List.set_cons_zero, List.set_cons_succ]
                      refine wpAnyH_take (i := 6) (oi := ({ dst := some 98, op := Op.indexAddr 22 (Operand.tmp 96) (Operand.tmp 97), type := 0, pos := "law.go:111", after := #[{ on := 4, ground := Ground.data }, { on := 5, ground := Ground.data }], guard := none } : Oper)) (v := .pointer (some ⟨bY, oY + t * 32, none⟩)) rfl (by kernel_rfl) (by kernel_rfl) (by kernel_rfl) (fun _ _ _ h => h) (Or.inl ⟨by rfl, fun w hSw => by go_simp⟩) hHeld ?_
                      simp only [Act.put, List.setIfInBounds_toArray, List.set_cons_zero, List.set_cons_succ]
                      refine wpAnyH_take (i := 7) (oi := ({ dst := some 99, op := Op.load 25 (Operand.tmp 98), type := 25, pos := "law.go:111", after := #[{ on := 6, ground := Ground.data }], guard := none } : Oper)) (v := .agg UY.toArray) rfl (by kernel_rfl) (by kernel_rfl) (by kernel_rfl) (fun _ _ _ h => h) (yieldsIf_load_mid (by rfl) _ _ rfl bY (oY + t * 32) rfl UY _ (fun _ h => h.2.1) hu rfl hiY) hHeld ?_
                      simp only [Act.put, List.setIfInBounds_toArray, List.set_cons_zero, List.set_cons_succ]
                      refine wpAnyH_take (i := 8) (oi := ({ dst := some 100, op := Op.binOp BinOp.eql 25 (Operand.tmp 95) (Operand.tmp 99) 25, type := 4, pos := "law.go:111", after := #[{ on := 3, ground := Ground.data }, { on := 7, ground := Ground.data }], guard := none } : Oper)) (v := .bool true) rfl (by kernel_rfl) (by kernel_rfl) (by kernel_rfl) (fun _ _ _ h => h) (Or.inl ⟨by rfl, fun w hSw => by go_simp⟩) hHeld ?_
                      simp only [Act.put, List.setIfInBounds_toArray, List.set_cons_zero, List.set_cons_succ]
                      refine wpAnyH_take (i := 9) (oi := ({ dst := some 101, op := Op.move (Operand.tmp 100), type := 4, pos := "law.go:111", after := #[{ on := 8, ground := Ground.data }], guard := none } : Oper)) (v := .bool true) rfl (by kernel_rfl) (by kernel_rfl) (by kernel_rfl) (fun _ _ _ h => h) (Or.inl ⟨by rfl, fun w hSw => by go_simp⟩) hHeld ?_
                      simp only [Act.put, List.setIfInBounds_toArray, List.set_cons_zero, List.set_cons_succ]
                      refine wpAnyH_take (i := 10) (oi := ({ dst := some 102, op := Op.move (Operand.tmp 8), type := 22, pos := "law.go:111", after := #[{ on := 9, ground := Ground.guard }], guard := some (9, true) } : Oper)) (v := .slice (some ⟨ba, oa, none⟩) l ca) rfl (by kernel_rfl) (by kernel_rfl) (by kernel_rfl) (fun _ _ _ h => h) (Or.inl ⟨by rfl, fun w hSw => by go_simp⟩) hHeld ?_
                      simp only [Act.put, List.setIfInBounds_toArray, List.set_cons_zero, List.set_cons_succ]
                      refine wpAnyH_take (i := 11) (oi := ({ dst := some 103, op := Op.move (Operand.tmp 12), type := 3, pos := "law.go:111", after := #[{ on := 9, ground := Ground.guard }], guard := some (9, true) } : Oper)) (v := .int .i64 (t : Int)) rfl (by kernel_rfl) (by kernel_rfl) (by kernel_rfl) (fun _ _ _ h => h) (Or.inl ⟨by rfl, fun w hSw => by go_simp⟩) hHeld ?_
                      simp only [Act.put, List.setIfInBounds_toArray, List.set_cons_zero, List.set_cons_succ]
                      refine wpAnyH_take (i := 12) (oi := ({ dst := some 104, op := Op.binOp BinOp.mul 3 (Operand.const (Value.int IntKind.i64 2)) (Operand.tmp 103) 3, type := 3, pos := "law.go:111", after := #[{ on := 11, ground := Ground.data }, { on := 9, ground := Ground.guard }], guard := some (9, true) } : Oper)) (v := .int .i64 (i0 : Int)) rfl (by kernel_rfl) (by kernel_rfl) (by kernel_rfl) (fun _ _ _ h => h) (Or.inl ⟨by rfl, fun w hSw => by go_simp⟩) hHeld ?_
                      simp only [Act.put, List.setIfInBounds_toArray, List.set_cons_zero, List.set_cons_succ]
                      refine wpAnyH_take (i := 13) (oi := ({ dst := some 105, op := Op.indexAddr 22 (Operand.tmp 102) (Operand.tmp 104), type := 0, pos := "law.go:111", after := #[{ on := 10, ground := Ground.data }, { on := 12, ground := Ground.data }, { on := 9, ground := Ground.guard }], guard := some (9, true) } : Oper)) (v := .pointer (some ⟨ba, oa + i0 * 32, none⟩)) rfl (by kernel_rfl) (by kernel_rfl) (by kernel_rfl) (fun _ _ _ h => h) (Or.inl ⟨by rfl, fun w hSw => by go_simp⟩) hHeld ?_
                      simp only [Act.put, List.setIfInBounds_toArray, List.set_cons_zero, List.set_cons_succ]
                      refine wpAnyH_take (i := 14) (oi := ({ dst := some 106, op := Op.load 25 (Operand.tmp 105), type := 25, pos := "law.go:111", after := #[{ on := 13, ground := Ground.data }, { on := 9, ground := Ground.guard }], guard := some (9, true) } : Oper)) (v := .agg PA.toArray) rfl (by kernel_rfl) (by kernel_rfl) (by kernel_rfl) (fun _ _ _ h => h) (yieldsIf_load_mid (by rfl) _ _ rfl ba (oa + i0 * 32) rfl PA _ (fun _ h => h.2.2.1) hu rfl hiPA) hHeld ?_
                      simp only [Act.put, List.setIfInBounds_toArray, List.set_cons_zero, List.set_cons_succ]
                      refine wpAnyH_take (i := 15) (oi := ({ dst := some 107, op := Op.move (Operand.tmp 9), type := 22, pos := "law.go:111", after := #[{ on := 9, ground := Ground.guard }], guard := some (9, true) } : Oper)) (v := .slice (some ⟨bb, ob, none⟩) l cb) rfl (by kernel_rfl) (by kernel_rfl) (by kernel_rfl) (fun _ _ _ h => h) (Or.inl ⟨by rfl, fun w hSw => by go_simp⟩) hHeld ?_
                      simp only [Act.put, List.setIfInBounds_toArray, List.set_cons_zero, List.set_cons_succ]
                      refine wpAnyH_take (i := 16) (oi := ({ dst := some 108, op := Op.move (Operand.tmp 12), type := 3, pos := "law.go:111", after := #[{ on := 9, ground := Ground.guard }], guard := some (9, true) } : Oper)) (v := .int .i64 (t : Int)) rfl (by kernel_rfl) (by kernel_rfl) (by kernel_rfl) (fun _ _ _ h => h) (Or.inl ⟨by rfl, fun w hSw => by go_simp⟩) hHeld ?_
                      simp only [Act.put, List.setIfInBounds_toArray, List.set_cons_zero, List.set_cons_succ]
                      refine wpAnyH_take (i := 17) (oi := ({ dst := some 109, op := Op.binOp BinOp.mul 3 (Operand.const (Value.int IntKind.i64 2)) (Operand.tmp 108) 3, type := 3, pos := "law.go:111", after := #[{ on := 16, ground := Ground.data }, { on := 9, ground := Ground.guard }], guard := some (9, true) } : Oper)) (v := .int .i64 (i0 : Int)) rfl (by kernel_rfl) (by kernel_rfl) (by kernel_rfl) (fun _ _ _ h => h) (Or.inl ⟨by rfl, fun w hSw => by go_simp⟩) hHeld ?_
                      simp only [Act.put, List.setIfInBounds_toArray, List.set_cons_zero, List.set_cons_succ]
                      refine wpAnyH_take (i := 18) (oi := ({ dst := some 110, op := Op.indexAddr 22 (Operand.tmp 107) (Operand.tmp 109), type := 0, pos := "law.go:111", after := #[{ on := 15, ground := Ground.data }, { on := 17, ground := Ground.data }, { on := 9, ground := Ground.guard }], guard := some (9, true) } : Oper)) (v := .pointer (some ⟨bb, ob + i0 * 32, none⟩)) rfl (by kernel_rfl) (by kernel_rfl) (by kernel_rfl) (fun _ _ _ h => h) (Or.inl ⟨by rfl, fun w hSw => by go_simp⟩) hHeld ?_
                      simp only [Act.put, List.setIfInBounds_toArray, List.set_cons_zero, List.set_cons_succ]
                      refine wpAnyH_take (i := 19) (oi := ({ dst := some 111, op := Op.load 25 (Operand.tmp 110), type := 25, pos := "law.go:111", after := #[{ on := 18, ground := Ground.data }, { on := 9, ground := Ground.guard }], guard := some (9, true) } : Oper)) (v := .agg PB.toArray) rfl (by kernel_rfl) (by kernel_rfl) (by kernel_rfl) (fun _ _ _ h => h) (yieldsIf_load_mid (by rfl) _ _ rfl bb (ob + i0 * 32) rfl PB _ (fun _ h => h.2.2.2.1) hu rfl hiPB) hHeld ?_
                      simp only [Act.put, List.setIfInBounds_toArray, List.set_cons_zero, List.set_cons_succ]
                      refine wpAnyH_take (i := 20) (oi := ({ dst := some 112, op := Op.binOp BinOp.neq 25 (Operand.tmp 106) (Operand.tmp 111) 25, type := 4, pos := "law.go:111", after := #[{ on := 14, ground := Ground.data }, { on := 19, ground := Ground.data }, { on := 9, ground := Ground.guard }], guard := some (9, true) } : Oper)) (v := .bool true) rfl (by kernel_rfl) (by kernel_rfl) (by kernel_rfl) (fun _ _ _ h => h) (Or.inl ⟨by rfl, fun w hSw => by go_simp⟩) hHeld ?_
                      simp only [Act.put, List.setIfInBounds_toArray, List.set_cons_zero, List.set_cons_succ]
                      refine wpAnyH_take (i := 21) (oi := ({ dst := some 113, op := Op.move (Operand.tmp 112), type := 4, pos := "law.go:111", after := #[{ on := 20, ground := Ground.data }, { on := 9, ground := Ground.chain }, { on := 9, ground := Ground.guard }], guard := some (9, true) } : Oper)) (v := .bool true) rfl (by kernel_rfl) (by kernel_rfl) (by kernel_rfl) (fun _ _ _ h => h) (Or.inl ⟨by rfl, fun w hSw => by go_simp⟩) hHeld ?_
                      simp only [Act.put, List.setIfInBounds_toArray, List.set_cons_zero, List.set_cons_succ]
                      refine wpAnyH_take (i := 22) (oi := ({ dst := some 114, op := Op.move (Operand.tmp 8), type := 22, pos := "law.go:111", after := #[{ on := 21, ground := Ground.guard }], guard := some (21, false) } : Oper)) (v := undef) rfl (by kernel_rfl) (by kernel_rfl) (by kernel_rfl) (fun _ _ _ h => h) (Or.inr ⟨by rfl, rfl⟩) hHeld ?_
                      simp only [Act.put, List.setIfInBounds_toArray, List.set_cons_zero, List.set_cons_succ]
                      refine wpAnyH_take (i := 23) (oi := ({ dst := some 115, op := Op.move (Operand.tmp 13), type := 3, pos := "law.go:111", after := #[{ on := 21, ground := Ground.guard }], guard := some (21, false) } : Oper)) (v := undef) rfl (by kernel_rfl) (by kernel_rfl) (by kernel_rfl) (fun _ _ _ h => h) (Or.inr ⟨by rfl, rfl⟩) hHeld ?_
                      simp only [Act.put, List.setIfInBounds_toArray, List.set_cons_zero, List.set_cons_succ]
                      refine wpAnyH_take (i := 24) (oi := ({ dst := some 116, op := Op.indexAddr 22 (Operand.tmp 114) (Operand.tmp 115), type := 0, pos := "law.go:111", after := #[{ on := 22, ground := Ground.data }, { on := 23, ground := Ground.data }, { on := 21, ground := Ground.guard }], guard := some (21, false) } : Oper)) (v := undef) rfl (by kernel_rfl) (by kernel_rfl) (by kernel_rfl) (fun _ _ _ h => h) (Or.inr ⟨by rfl, rfl⟩) hHeld ?_
                      simp only [Act.put, List.setIfInBounds_toArray, List.set_cons_zero, List.set_cons_succ]
                      refine wpAnyH_take (i := 25) (oi := ({ dst := some 117, op := Op.load 25 (Operand.tmp 116), type := 25, pos := "law.go:111", after := #[{ on := 24, ground := Ground.data }, { on := 21, ground := Ground.guard }], guard := some (21, false) } : Oper)) (v := undef) rfl (by kernel_rfl) (by kernel_rfl) (by kernel_rfl) (fun _ _ _ h => h) (Or.inr ⟨by rfl, rfl⟩) hHeld ?_
                      simp only [Act.put, List.setIfInBounds_toArray, List.set_cons_zero, List.set_cons_succ]
                      refine wpAnyH_take (i := 26) (oi := ({ dst := some 118, op := Op.move (Operand.tmp 9), type := 22, pos := "law.go:111", after := #[{ on := 21, ground := Ground.guard }], guard := some (21, false) } : Oper)) (v := undef) rfl (by kernel_rfl) (by kernel_rfl) (by kernel_rfl) (fun _ _ _ h => h) (Or.inr ⟨by rfl, rfl⟩) hHeld ?_
                      simp only [Act.put, List.setIfInBounds_toArray, List.set_cons_zero, List.set_cons_succ]
                      refine wpAnyH_take (i := 27) (oi := ({ dst := some 119, op := Op.move (Operand.tmp 14), type := 3, pos := "law.go:111", after := #[{ on := 21, ground := Ground.guard }], guard := some (21, false) } : Oper)) (v := undef) rfl (by kernel_rfl) (by kernel_rfl) (by kernel_rfl) (fun _ _ _ h => h) (Or.inr ⟨by rfl, rfl⟩) hHeld ?_
                      simp only [Act.put, List.setIfInBounds_toArray, List.set_cons_zero, List.set_cons_succ]
                      refine wpAnyH_take (i := 28) (oi := ({ dst := some 120, op := Op.indexAddr 22 (Operand.tmp 118) (Operand.tmp 119), type := 0, pos := "law.go:111", after := #[{ on := 26, ground := Ground.data }, { on := 27, ground := Ground.data }, { on := 21, ground := Ground.guard }], guard := some (21, false) } : Oper)) (v := undef) rfl (by kernel_rfl) (by kernel_rfl) (by kernel_rfl) (fun _ _ _ h => h) (Or.inr ⟨by rfl, rfl⟩) hHeld ?_
                      simp only [Act.put, List.setIfInBounds_toArray, List.set_cons_zero, List.set_cons_succ]
                      refine wpAnyH_take (i := 29) (oi := ({ dst := some 121, op := Op.load 25 (Operand.tmp 120), type := 25, pos := "law.go:111", after := #[{ on := 28, ground := Ground.data }, { on := 21, ground := Ground.guard }], guard := some (21, false) } : Oper)) (v := undef) rfl (by kernel_rfl) (by kernel_rfl) (by kernel_rfl) (fun _ _ _ h => h) (Or.inr ⟨by rfl, rfl⟩) hHeld ?_
                      simp only [Act.put, List.setIfInBounds_toArray, List.set_cons_zero, List.set_cons_succ]
                      refine wpAnyH_take (i := 30) (oi := ({ dst := some 122, op := Op.binOp BinOp.neq 25 (Operand.tmp 117) (Operand.tmp 121) 25, type := 4, pos := "law.go:111", after := #[{ on := 25, ground := Ground.data }, { on := 29, ground := Ground.data }, { on := 21, ground := Ground.guard }], guard := some (21, false) } : Oper)) (v := undef) rfl (by kernel_rfl) (by kernel_rfl) (by kernel_rfl) (fun _ _ _ h => h) (Or.inr ⟨by rfl, rfl⟩) hHeld ?_
                      simp only [Act.put, List.setIfInBounds_toArray, List.set_cons_zero, List.set_cons_succ]
                      refine wpAnyH_take (i := 31) (oi := ({ dst := some 123, op := Op.pick (Operand.tmp 113) (Operand.const (Value.bool true)) (Operand.tmp 122), type := 4, pos := "law.go:111", after := #[{ on := 21, ground := Ground.data }, { on := 30, ground := Ground.data }, { on := 9, ground := Ground.guard }], guard := some (9, true) } : Oper)) (v := .bool true) rfl (by kernel_rfl) (by kernel_rfl) (by kernel_rfl) (fun _ _ _ h => h) (Or.inl ⟨by rfl, fun w hSw => by go_simp⟩) hHeld ?_
                      simp only [Act.put, List.setIfInBounds_toArray, List.set_cons_zero, List.set_cons_succ]
                      refine wpAnyH_take (i := 32) (oi := ({ dst := some 124, op := Op.pick (Operand.tmp 101) (Operand.tmp 123) (Operand.const (Value.bool false)), type := 4, pos := "law.go:111", after := #[{ on := 9, ground := Ground.data }, { on := 31, ground := Ground.data }], guard := none } : Oper)) (v := .bool true) rfl (by kernel_rfl) (by kernel_rfl) (by kernel_rfl) (fun _ _ _ h => h) (Or.inl ⟨by rfl, fun w hSw => by go_simp⟩) hHeld ?_
                      simp only [Act.put, List.setIfInBounds_toArray, List.set_cons_zero, List.set_cons_succ]
                      refine wpAnyH_done (by kernel_rfl) ?_ _
                      clear qx qp qq hiX hiY hiPA hiPB hiQA hiQB hHeld
                      go_wp2_with fail
                      have HW2 := Lib.hid (HBW2.out.trans (Below.mono (below_drew HB2.out) HBW2.out.size))
                      refine (HAW.out _ HW2.out).mono ?_
                      rintro e wz ⟨rfl, hbz⟩
                      have HZ := Lib.hid (HW2.out.trans (Below.mono hbz HW2.out.size))
                      clear hbz
                      go_wp2_with fail
                      go_ret
                      exact ⟨rfl, HZ.out⟩
                · have HOKT := Lib.hid (HSUC.out (HPK.out.2 fun e => absurd (by simpa using e) ex))
                  rw [Bool.eq_false_iff.2 ex] at qx
                  clear ex HSUC HPK
                  as_aux_lemma =>
                    go_wp2_with fail
                    have hHeld := HS.out _ (below_drew HB2.out)
                    refine wp_region_held (S := fun u => u.rangeAt bx (ox + t * 32) UX ∧ u.rangeAt bY (oY + t * 32) UY ∧ u.rangeAt ba (oa + i0 * 32) PA ∧ u.rangeAt bb (ob + i0 * 32) PB ∧ u.rangeAt ba (oa + jj * 32) QA ∧ u.rangeAt bb (ob + jj * 32) QB) (by kernel_rfl) ?_
                    change wpAnyH _ _ _ _ _ _ _ _ (World.drew _)
                    refine wpAnyH_take (i := 0) (oi := ({ dst := some 92, op := Op.move (Operand.tmp 10), type := 22, pos := "law.go:111", after := #[], guard := none } : Oper)) (v := .slice (some ⟨bx, ox, none⟩) m cx) rfl (by kernel_rfl) (by kernel_rfl) (by kernel_rfl) (fun _ _ _ h => h) (Or.inl ⟨by rfl, fun w hSw => by go_simp⟩) hHeld ?_
                    simp only [Act.put, List.setIfInBounds_toArray, List.set_cons_zero, List.set_cons_succ]
                    refine wpAnyH_take (i := 1) (oi := ({ dst := some 93, op := Op.move (Operand.tmp 12), type := 3, pos := "law.go:111", after := #[], guard := none } : Oper)) (v := .int .i64 (t : Int)) rfl (by kernel_rfl) (by kernel_rfl) (by kernel_rfl) (fun _ _ _ h => h) (Or.inl ⟨by rfl, fun w hSw => by go_simp⟩) hHeld ?_
                    simp only [Act.put, List.setIfInBounds_toArray, List.set_cons_zero, List.set_cons_succ]
                    refine wpAnyH_take (i := 2) (oi := ({ dst := some 94, op := Op.indexAddr 22 (Operand.tmp 92) (Operand.tmp 93), type := 0, pos := "law.go:111", after := #[{ on := 0, ground := Ground.data }, { on := 1, ground := Ground.data }], guard := none } : Oper)) (v := .pointer (some ⟨bx, ox + t * 32, none⟩)) rfl (by kernel_rfl) (by kernel_rfl) (by kernel_rfl) (fun _ _ _ h => h) (Or.inl ⟨by rfl, fun w hSw => by go_simp⟩) hHeld ?_
                    simp only [Act.put, List.setIfInBounds_toArray, List.set_cons_zero, List.set_cons_succ]
                    refine wpAnyH_take (i := 3) (oi := ({ dst := some 95, op := Op.load 25 (Operand.tmp 94), type := 25, pos := "law.go:111", after := #[{ on := 2, ground := Ground.data }], guard := none } : Oper)) (v := .agg UX.toArray) rfl (by kernel_rfl) (by kernel_rfl) (by kernel_rfl) (fun _ _ _ h => h) (yieldsIf_load_mid (by rfl) _ _ rfl bx (ox + t * 32) rfl UX _ (fun _ h => h.1) hu rfl hiX) hHeld ?_
                    simp only [Act.put, List.setIfInBounds_toArray, List.set_cons_zero, List.set_cons_succ]
                    refine wpAnyH_take (i := 4) (oi := ({ dst := some 96, op := Op.move (Operand.tmp 11), type := 22, pos := "law.go:111", after := #[], guard := none } : Oper)) (v := .slice (some ⟨bY, oY, none⟩) m cY) rfl (by kernel_rfl) (by kernel_rfl) (by kernel_rfl) (fun _ _ _ h => h) (Or.inl ⟨by rfl, fun w hSw => by go_simp⟩) hHeld ?_
                    simp only [Act.put, List.setIfInBounds_toArray, List.set_cons_zero, List.set_cons_succ]
                    refine wpAnyH_take (i := 5) (oi := ({ dst := some 97, op := Op.move (Operand.tmp 12), type := 3, pos := "law.go:111", after := #[], guard := none } : Oper)) (v := .int .i64 (t : Int)) rfl (by kernel_rfl) (by kernel_rfl) (by kernel_rfl) (fun _ _ _ h => h) (Or.inl ⟨by rfl, fun w hSw => by go_simp⟩) hHeld ?_
                    simp only [Act.put, List.setIfInBounds_toArray, List.set_cons_zero, List.set_cons_succ]
                    refine wpAnyH_take (i := 6) (oi := ({ dst := some 98, op := Op.indexAddr 22 (Operand.tmp 96) (Operand.tmp 97), type := 0, pos := "law.go:111", after := #[{ on := 4, ground := Ground.data }, { on := 5, ground := Ground.data }], guard := none } : Oper)) (v := .pointer (some ⟨bY, oY + t * 32, none⟩)) rfl (by kernel_rfl) (by kernel_rfl) (by kernel_rfl) (fun _ _ _ h => h) (Or.inl ⟨by rfl, fun w hSw => by go_simp⟩) hHeld ?_
                    simp only [Act.put, List.setIfInBounds_toArray, List.set_cons_zero, List.set_cons_succ]
                    refine wpAnyH_take (i := 7) (oi := ({ dst := some 99, op := Op.load 25 (Operand.tmp 98), type := 25, pos := "law.go:111", after := #[{ on := 6, ground := Ground.data }], guard := none } : Oper)) (v := .agg UY.toArray) rfl (by kernel_rfl) (by kernel_rfl) (by kernel_rfl) (fun _ _ _ h => h) (yieldsIf_load_mid (by rfl) _ _ rfl bY (oY + t * 32) rfl UY _ (fun _ h => h.2.1) hu rfl hiY) hHeld ?_
                    simp only [Act.put, List.setIfInBounds_toArray, List.set_cons_zero, List.set_cons_succ]
                    refine wpAnyH_take (i := 8) (oi := ({ dst := some 100, op := Op.binOp BinOp.eql 25 (Operand.tmp 95) (Operand.tmp 99) 25, type := 4, pos := "law.go:111", after := #[{ on := 3, ground := Ground.data }, { on := 7, ground := Ground.data }], guard := none } : Oper)) (v := .bool false) rfl (by kernel_rfl) (by kernel_rfl) (by kernel_rfl) (fun _ _ _ h => h) (Or.inl ⟨by rfl, fun w hSw => by go_simp⟩) hHeld ?_
                    simp only [Act.put, List.setIfInBounds_toArray, List.set_cons_zero, List.set_cons_succ]
                    refine wpAnyH_take (i := 9) (oi := ({ dst := some 101, op := Op.move (Operand.tmp 100), type := 4, pos := "law.go:111", after := #[{ on := 8, ground := Ground.data }], guard := none } : Oper)) (v := .bool false) rfl (by kernel_rfl) (by kernel_rfl) (by kernel_rfl) (fun _ _ _ h => h) (Or.inl ⟨by rfl, fun w hSw => by go_simp⟩) hHeld ?_
                    simp only [Act.put, List.setIfInBounds_toArray, List.set_cons_zero, List.set_cons_succ]
                    refine wpAnyH_take (i := 10) (oi := ({ dst := some 102, op := Op.move (Operand.tmp 8), type := 22, pos := "law.go:111", after := #[{ on := 9, ground := Ground.guard }], guard := some (9, true) } : Oper)) (v := undef) rfl (by kernel_rfl) (by kernel_rfl) (by kernel_rfl) (fun _ _ _ h => h) (Or.inr ⟨by rfl, rfl⟩) hHeld ?_
                    simp only [Act.put, List.setIfInBounds_toArray, List.set_cons_zero, List.set_cons_succ]
                    refine wpAnyH_take (i := 11) (oi := ({ dst := some 103, op := Op.move (Operand.tmp 12), type := 3, pos := "law.go:111", after := #[{ on := 9, ground := Ground.guard }], guard := some (9, true) } : Oper)) (v := undef) rfl (by kernel_rfl) (by kernel_rfl) (by kernel_rfl) (fun _ _ _ h => h) (Or.inr ⟨by rfl, rfl⟩) hHeld ?_
                    simp only [Act.put, List.setIfInBounds_toArray, List.set_cons_zero, List.set_cons_succ]
                    refine wpAnyH_take (i := 12) (oi := ({ dst := some 104, op := Op.binOp BinOp.mul 3 (Operand.const (Value.int IntKind.i64 2)) (Operand.tmp 103) 3, type := 3, pos := "law.go:111", after := #[{ on := 11, ground := Ground.data }, { on := 9, ground := Ground.guard }], guard := some (9, true) } : Oper)) (v := undef) rfl (by kernel_rfl) (by kernel_rfl) (by kernel_rfl) (fun _ _ _ h => h) (Or.inr ⟨by rfl, rfl⟩) hHeld ?_
                    simp only [Act.put, List.setIfInBounds_toArray, List.set_cons_zero, List.set_cons_succ]
                    refine wpAnyH_take (i := 13) (oi := ({ dst := some 105, op := Op.indexAddr 22 (Operand.tmp 102) (Operand.tmp 104), type := 0, pos := "law.go:111", after := #[{ on := 10, ground := Ground.data }, { on := 12, ground := Ground.data }, { on := 9, ground := Ground.guard }], guard := some (9, true) } : Oper)) (v := undef) rfl (by kernel_rfl) (by kernel_rfl) (by kernel_rfl) (fun _ _ _ h => h) (Or.inr ⟨by rfl, rfl⟩) hHeld ?_
                    simp only [Act.put, List.setIfInBounds_toArray, List.set_cons_zero, List.set_cons_succ]
                    refine wpAnyH_take (i := 14) (oi := ({ dst := some 106, op := Op.load 25 (Operand.tmp 105), type := 25, pos := "law.go:111", after := #[{ on := 13, ground := Ground.data }, { on := 9, ground := Ground.guard }], guard := some (9, true) } : Oper)) (v := undef) rfl (by kernel_rfl) (by kernel_rfl) (by kernel_rfl) (fun _ _ _ h => h) (Or.inr ⟨by rfl, rfl⟩) hHeld ?_
                    simp only [Act.put, List.setIfInBounds_toArray, List.set_cons_zero, List.set_cons_succ]
                    refine wpAnyH_take (i := 15) (oi := ({ dst := some 107, op := Op.move (Operand.tmp 9), type := 22, pos := "law.go:111", after := #[{ on := 9, ground := Ground.guard }], guard := some (9, true) } : Oper)) (v := undef) rfl (by kernel_rfl) (by kernel_rfl) (by kernel_rfl) (fun _ _ _ h => h) (Or.inr ⟨by rfl, rfl⟩) hHeld ?_
                    simp only [Act.put, List.setIfInBounds_toArray, List.set_cons_zero, List.set_cons_succ]
                    refine wpAnyH_take (i := 16) (oi := ({ dst := some 108, op := Op.move (Operand.tmp 12), type := 3, pos := "law.go:111", after := #[{ on := 9, ground := Ground.guard }], guard := some (9, true) } : Oper)) (v := undef) rfl (by kernel_rfl) (by kernel_rfl) (by kernel_rfl) (fun _ _ _ h => h) (Or.inr ⟨by rfl, rfl⟩) hHeld ?_
                    simp only [Act.put, List.setIfInBounds_toArray, List.set_cons_zero, List.set_cons_succ]
                    refine wpAnyH_take (i := 17) (oi := ({ dst := some 109, op := Op.binOp BinOp.mul 3 (Operand.const (Value.int IntKind.i64 2)) (Operand.tmp 108) 3, type := 3, pos := "law.go:111", after := #[{ on := 16, ground := Ground.data }, { on := 9, ground := Ground.guard }], guard := some (9, true) } : Oper)) (v := undef) rfl (by kernel_rfl) (by kernel_rfl) (by kernel_rfl) (fun _ _ _ h => h) (Or.inr ⟨by rfl, rfl⟩) hHeld ?_
                    simp only [Act.put, List.setIfInBounds_toArray, List.set_cons_zero, List.set_cons_succ]
                    refine wpAnyH_take (i := 18) (oi := ({ dst := some 110, op := Op.indexAddr 22 (Operand.tmp 107) (Operand.tmp 109), type := 0, pos := "law.go:111", after := #[{ on := 15, ground := Ground.data }, { on := 17, ground := Ground.data }, { on := 9, ground := Ground.guard }], guard := some (9, true) } : Oper)) (v := undef) rfl (by kernel_rfl) (by kernel_rfl) (by kernel_rfl) (fun _ _ _ h => h) (Or.inr ⟨by rfl, rfl⟩) hHeld ?_
                    simp only [Act.put, List.setIfInBounds_toArray, List.set_cons_zero, List.set_cons_succ]
                    refine wpAnyH_take (i := 19) (oi := ({ dst := some 111, op := Op.load 25 (Operand.tmp 110), type := 25, pos := "law.go:111", after := #[{ on := 18, ground := Ground.data }, { on := 9, ground := Ground.guard }], guard := some (9, true) } : Oper)) (v := undef) rfl (by kernel_rfl) (by kernel_rfl) (by kernel_rfl) (fun _ _ _ h => h) (Or.inr ⟨by rfl, rfl⟩) hHeld ?_
                    simp only [Act.put, List.setIfInBounds_toArray, List.set_cons_zero, List.set_cons_succ]
                    refine wpAnyH_take (i := 20) (oi := ({ dst := some 112, op := Op.binOp BinOp.neq 25 (Operand.tmp 106) (Operand.tmp 111) 25, type := 4, pos := "law.go:111", after := #[{ on := 14, ground := Ground.data }, { on := 19, ground := Ground.data }, { on := 9, ground := Ground.guard }], guard := some (9, true) } : Oper)) (v := undef) rfl (by kernel_rfl) (by kernel_rfl) (by kernel_rfl) (fun _ _ _ h => h) (Or.inr ⟨by rfl, rfl⟩) hHeld ?_
                    simp only [Act.put, List.setIfInBounds_toArray, List.set_cons_zero, List.set_cons_succ]
                    refine wpAnyH_take (i := 21) (oi := ({ dst := some 113, op := Op.move (Operand.tmp 112), type := 4, pos := "law.go:111", after := #[{ on := 20, ground := Ground.data }, { on := 9, ground := Ground.chain }, { on := 9, ground := Ground.guard }], guard := some (9, true) } : Oper)) (v := undef) rfl (by kernel_rfl) (by kernel_rfl) (by kernel_rfl) (fun _ _ _ h => h) (Or.inr ⟨by rfl, rfl⟩) hHeld ?_
                    simp only [Act.put, List.setIfInBounds_toArray, List.set_cons_zero, List.set_cons_succ]
                    refine wpAnyH_take (i := 22) (oi := ({ dst := some 114, op := Op.move (Operand.tmp 8), type := 22, pos := "law.go:111", after := #[{ on := 21, ground := Ground.guard }], guard := some (21, false) } : Oper)) (v := undef) rfl (by kernel_rfl) (by kernel_rfl) (by kernel_rfl) (fun _ _ _ h => h) (Or.inr ⟨by rfl, rfl⟩) hHeld ?_
                    simp only [Act.put, List.setIfInBounds_toArray, List.set_cons_zero, List.set_cons_succ]
                    refine wpAnyH_take (i := 23) (oi := ({ dst := some 115, op := Op.move (Operand.tmp 13), type := 3, pos := "law.go:111", after := #[{ on := 21, ground := Ground.guard }], guard := some (21, false) } : Oper)) (v := undef) rfl (by kernel_rfl) (by kernel_rfl) (by kernel_rfl) (fun _ _ _ h => h) (Or.inr ⟨by rfl, rfl⟩) hHeld ?_
                    simp only [Act.put, List.setIfInBounds_toArray, List.set_cons_zero, List.set_cons_succ]
                    refine wpAnyH_take (i := 24) (oi := ({ dst := some 116, op := Op.indexAddr 22 (Operand.tmp 114) (Operand.tmp 115), type := 0, pos := "law.go:111", after := #[{ on := 22, ground := Ground.data }, { on := 23, ground := Ground.data }, { on := 21, ground := Ground.guard }], guard := some (21, false) } : Oper)) (v := undef) rfl (by kernel_rfl) (by kernel_rfl) (by kernel_rfl) (fun _ _ _ h => h) (Or.inr ⟨by rfl, rfl⟩) hHeld ?_
                    simp only [Act.put, List.setIfInBounds_toArray, List.set_cons_zero, List.set_cons_succ]
                    refine wpAnyH_take (i := 25) (oi := ({ dst := some 117, op := Op.load 25 (Operand.tmp 116), type := 25, pos := "law.go:111", after := #[{ on := 24, ground := Ground.data }, { on := 21, ground := Ground.guard }], guard := some (21, false) } : Oper)) (v := undef) rfl (by kernel_rfl) (by kernel_rfl) (by kernel_rfl) (fun _ _ _ h => h) (Or.inr ⟨by rfl, rfl⟩) hHeld ?_
                    simp only [Act.put, List.setIfInBounds_toArray, List.set_cons_zero, List.set_cons_succ]
                    refine wpAnyH_take (i := 26) (oi := ({ dst := some 118, op := Op.move (Operand.tmp 9), type := 22, pos := "law.go:111", after := #[{ on := 21, ground := Ground.guard }], guard := some (21, false) } : Oper)) (v := undef) rfl (by kernel_rfl) (by kernel_rfl) (by kernel_rfl) (fun _ _ _ h => h) (Or.inr ⟨by rfl, rfl⟩) hHeld ?_
                    simp only [Act.put, List.setIfInBounds_toArray, List.set_cons_zero, List.set_cons_succ]
                    refine wpAnyH_take (i := 27) (oi := ({ dst := some 119, op := Op.move (Operand.tmp 14), type := 3, pos := "law.go:111", after := #[{ on := 21, ground := Ground.guard }], guard := some (21, false) } : Oper)) (v := undef) rfl (by kernel_rfl) (by kernel_rfl) (by kernel_rfl) (fun _ _ _ h => h) (Or.inr ⟨by rfl, rfl⟩) hHeld ?_
                    simp only [Act.put, List.setIfInBounds_toArray, List.set_cons_zero, List.set_cons_succ]
                    refine wpAnyH_take (i := 28) (oi := ({ dst := some 120, op := Op.indexAddr 22 (Operand.tmp 118) (Operand.tmp 119), type := 0, pos := "law.go:111", after := #[{ on := 26, ground := Ground.data }, { on := 27, ground := Ground.data }, { on := 21, ground := Ground.guard }], guard := some (21, false) } : Oper)) (v := undef) rfl (by kernel_rfl) (by kernel_rfl) (by kernel_rfl) (fun _ _ _ h => h) (Or.inr ⟨by rfl, rfl⟩) hHeld ?_
                    simp only [Act.put, List.setIfInBounds_toArray, List.set_cons_zero, List.set_cons_succ]
                    refine wpAnyH_take (i := 29) (oi := ({ dst := some 121, op := Op.load 25 (Operand.tmp 120), type := 25, pos := "law.go:111", after := #[{ on := 28, ground := Ground.data }, { on := 21, ground := Ground.guard }], guard := some (21, false) } : Oper)) (v := undef) rfl (by kernel_rfl) (by kernel_rfl) (by kernel_rfl) (fun _ _ _ h => h) (Or.inr ⟨by rfl, rfl⟩) hHeld ?_
                    simp only [Act.put, List.setIfInBounds_toArray, List.set_cons_zero, List.set_cons_succ]
                    refine wpAnyH_take (i := 30) (oi := ({ dst := some 122, op := Op.binOp BinOp.neq 25 (Operand.tmp 117) (Operand.tmp 121) 25, type := 4, pos := "law.go:111", after := #[{ on := 25, ground := Ground.data }, { on := 29, ground := Ground.data }, { on := 21, ground := Ground.guard }], guard := some (21, false) } : Oper)) (v := undef) rfl (by kernel_rfl) (by kernel_rfl) (by kernel_rfl) (fun _ _ _ h => h) (Or.inr ⟨by rfl, rfl⟩) hHeld ?_
                    simp only [Act.put, List.setIfInBounds_toArray, List.set_cons_zero, List.set_cons_succ]
                    refine wpAnyH_take (i := 31) (oi := ({ dst := some 123, op := Op.pick (Operand.tmp 113) (Operand.const (Value.bool true)) (Operand.tmp 122), type := 4, pos := "law.go:111", after := #[{ on := 21, ground := Ground.data }, { on := 30, ground := Ground.data }, { on := 9, ground := Ground.guard }], guard := some (9, true) } : Oper)) (v := undef) rfl (by kernel_rfl) (by kernel_rfl) (by kernel_rfl) (fun _ _ _ h => h) (Or.inr ⟨by rfl, rfl⟩) hHeld ?_
                    simp only [Act.put, List.setIfInBounds_toArray, List.set_cons_zero, List.set_cons_succ]
                    refine wpAnyH_take (i := 32) (oi := ({ dst := some 124, op := Op.pick (Operand.tmp 101) (Operand.tmp 123) (Operand.const (Value.bool false)), type := 4, pos := "law.go:111", after := #[{ on := 9, ground := Ground.data }, { on := 31, ground := Ground.data }], guard := none } : Oper)) (v := .bool false) rfl (by kernel_rfl) (by kernel_rfl) (by kernel_rfl) (fun _ _ _ h => h) (Or.inl ⟨by rfl, fun w hSw => by go_simp⟩) hHeld ?_
                    simp only [Act.put, List.setIfInBounds_toArray, List.set_cons_zero, List.set_cons_succ]
                    refine wpAnyH_done (by kernel_rfl) ?_ _
                    clear qx qp qq hiX hiY hiPA hiPB hiQA hiQB hHeld
                    go_wp2_with fail
                    rw [HWS.out]
                    go_roundw
                    case rel => exact ⟨t + 1, HG.out, rfl, Lib.hid ⟨below_drew HB2.out, HOKT.out⟩⟩
                    case measure => simp only [intOf, Int.toNat_natCast]; exact HME.out
              · have htm2 : t = m := by omega
                have hokk : okAt xs ys k := fun i hi => HPO.out i (by rw [← HX.out.1, HOK.out.2.2] at hi; omega)
                subst htm2
                have HNEW := Lib.hid (show wideP n (k + 1) ≤ cx ∧ wideP n (k + 1) ≤ cY ∧ Kd.C kH wr Ax (wideP n (k + 1)) (lev xs (k + 1)) ∧ Kd.C kH wr AY (wideP n (k + 1)) (lev ys (k + 1)) ∧ Below w6.heap.size w6 wr ∧ ∀ t, t < k + 1 → okAt xs ys t ∧ 1 < wideP n t from by
                  rw [HOK.out.2.2]
                  refine ⟨HCXY.out.1, HCXY.out.2, Kd.C_below HROWS.out.1 HB2.out, Kd.C_below HROWS.out.2.1 HB2.out, HB62.out.trans (Below.mono HB2.out HB62.out.size), fun q hq => ?_⟩
                  by_cases e : q = k
                  · rw [e]
                    exact ⟨hokk, by rw [HOK.out.2.1]; exact HLM.out.2.2⟩
                  · exact HOK.out.1 q (by omega))
                clear hokk
                go_wp2_with fail
                go_roundw
                case rel => exact ⟨k + 1, Ax, AY, cx, cY, by rw [HOK.out.2.2], by rw [HOK.out.2.2], HNEW⟩
                case measure => simp only [lenV]; have := HLM.out; omega
          · exfalso
            exact HX.out.2.2.2.2.1 (apart_back (HX.out.1.symm.trans HY.out.1.symm) (by have := HX.out.1; have := HX.out.2.2.2.2.2.1; omega) (d := k) (by rw [← HX.out.1, hl]; omega) (fun t ht => by rw [← HX.out.1]; exact (hok t ht).2) HER.out (fun t ht => (hok t ht).1))
      · rw [Bool.eq_false_iff.2 her] at q0
        clear her
        refine HROX.out.mono ?_
        rintro e w5 ⟨rfl, hb5⟩
        have HB5 := Lib.hid hb5
        have HROY5 := Lib.hid (HROY.out _ hb5)
        clear hb5 HROX HROY
        go_wp2_with fail
        refine HROY5.out.mono ?_
        rintro e w6 ⟨rfl, hb6⟩
        have HB6 := Lib.hid (HB5.out.trans (Below.mono hb6 HB5.out.size))
        clear hb6 HROY5
        go_wp2_with fail
        have HT6 := Lib.hid (HB4.out.trans (Below.mono HB6.out HB4.out.size))
        refine (HAW.out _ HT6.out).mono ?_
        rintro e w7 ⟨rfl, hb⟩
        have HB7 := Lib.hid (HT6.out.trans (Below.mono hb HT6.out.size))
        clear hb
        go_wp2_with fail
        go_ret
        exact ⟨rfl, HB7.out⟩
end Go.Proofs.YtlmcdkjobdcflaaDoor.Hand
