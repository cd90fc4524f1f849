/- Is a list doubled? Walked. -/
import Derived.Test.YtlmcdkjobdcflaaDoorProg
import Derived.Below
import Derived.Deep.Draws
import Derived.Deep.AppendLies
import Derived.Maps.AppendAt
import Derived.OwnWalk
import Derived.Laws.BytesArg
import Derived.Laws.MakeOwn
import Derived.Laws.OwnMore
import Derived.Deep.OwnRows
import Derived.Tactics
import Derived.Lib.ConvBytes
import Derived.Laws.Slices
import Derived.WalkKit
import Derived.KernelRfl
import Derived.RowKit3
import Derived.Deep.LoopGhost
import Derived.Deep.QuietTactic
import Derived.BigQuiet
import Derived.WideLaws
import Derived.Deep.DeepCutAuto
import Derived.Deep.CutBlock
import Derived.Deep.RegionHeld3
import Derived.Laws.Rows
import Derived.Lib.AppendStr
import Derived.ArgAppend
import Derived.Laws.IdiomCopy
import Derived.OrdersHeld
import Derived.Laws.BitsLemmas
import Derived.RowKit
import Derived.StillTailTactics
import Derived.Test.YtlmcdkjobdcflaaDoorWWords
import Derived.Test.YtlmcdkjobdcflaaDoorWLast
import Derived.Test.YtlmcdkjobdcflaaDoorWMore
import Derived.Lib.Hide
import Derived.RangeFuncFrom
import Derived.Test.YtlmcdkjobdcflaaDoorArrEq
import Derived.Test.YtlmcdkjobdcflaaDoorRoot
namespace Go.Proofs.YtlmcdkjobdcflaaDoor.Hand
open Go Go.RowKit Go.Shelf Go.Proofs.YtlmcdkjobdcflaaDoor.Plain Go.Proofs.YtlmcdkjobdcflaaDoorW.PrintWords Go.Proofs.YtlmcdkjobdcflaaDoorW.PrintLast Go.Proofs.YtlmcdkjobdcflaaDoorW.PrintMore
set_option linter.unusedVariables false
set_option linter.unusedSimpArgs false
set_option maxRecDepth 100000
attribute [local go_sem] Oper.semAt_some
theorem eqH (S T : List Int) (hS : S.length = 32) (hT : T.length = 32) (w : World) : (Op.equalIn 10000 25 (.agg (nums .u8 S).toArray) (.agg (nums .u8 T).toArray)).run Tryd.prog w = .ok (S == T) w :=
  run_equalIn_nums (P := Tryd.prog) w 9998 25 5 32 .u8 Tryd.underlying25 Tryd.underlying5 (fun w => by rfl) S T hS hT
theorem paired_of {xs : List (List Int)} {k : Nat} (h : 2 * k + 1 < xs.length) (e : (rdH xs (2 * k + 1) == rdH xs (2 * k)) = true) : pairedP xs = true := by
  unfold pairedP
  rw [List.any_eq_true]
  exact ⟨k, by simp; omega, e⟩
theorem paired_not {xs : List (List Int)} (h : ∀ k, 2 * k + 1 < xs.length → (rdH xs (2 * k + 1) == rdH xs (2 * k)) = false) : pairedP xs = false := by
  unfold pairedP
  rw [List.any_eq_false]
  intro k hk
  have : k < xs.length / 2 := by simpa using hk
  rw [h k (by omega)]
  simp
set_option maxHeartbeats 2000000 in
theorem doubled_calls (A : Option Addr) (n c : Nat) (xs : List (List Int)) (w : World) (hn : n = xs.length) (hr : Kd.C kH w A n xs) (hc : n ≤ c) (hl : n ≤ 100000) (hH : Hs xs) (hK : KT w) :
    Calls Tryd.prog 26 #[.slice A n c] w fun e w' => e = .returned (.bool (doubP xs)) ∧ Below w.heap.size w w' := by
  have hd := depthP_is xs.length
  obtain ⟨d, hdd⟩ : ∃ d, depthP xs.length = d := ⟨_, rfl⟩
  rw [hdd] at hd
  have hdoub := doubP_of hd
  have HR := Lib.hid hr
  have HN := Lib.hid (And.intro hn (And.intro hc (And.intro hl (And.intro hH (And.intro hK (And.intro hd hdoub))))))
  clear hr hn hc hl hH hK hd hdoub hdd
  refine (callsIn_wide (n := 3)).1 ?_
  refine callsIn_of_wp_marks Tryd.func26 rfl trivial ?_ rfl
  simp only [Tryd.ntmps26, List.size_toArray, List.length_cons, List.length_nil, Nat.reduceAdd, Nat.reduceSub, Array.replicate_succ, Array.replicate_zero, List.push_toArray, List.append_toArray, List.nil_append, List.cons_append]
  gi_wp2_with fail
  refine ⟨trivial, (callsIn_wide.2 (levels_calls A n c _)).mono ?_⟩
  rintro e w' ⟨rfl, rfl⟩
  have hsz : ((w.alloc (.cells #[.bool false] 4)).alloc (.cells #[.slice A n c] 22)).heap.size = w.heap.size + 2 := by simp
  have hB0 : Below w.heap.size w ((w.alloc (.cells #[.bool false] 4)).alloc (.cells #[.slice A n c] 22)) := below_alloc (below_alloc (Below.refl _ w) _) _
  have hk0 : ((w.alloc (.cells #[.bool false] 4)).alloc (.cells #[.slice A n c] 22)).heap[w.heap.size]? = some (.cells #[.bool false] 4 (0, 0)) := blk_alloc (heap_alloc_new w _) _
  have hk2 : ((w.alloc (.cells #[.bool false] 4)).alloc (.cells #[.slice A n c] 22)).heap[w.heap.size + 1]? = some (.cells #[.slice A n c] 22 (0, 0)) := by
    have h := heap_alloc_new (w.alloc (.cells #[.bool false] 4)) (.cells #[.slice A n c] 22)
    simpa using h
  have HW := Lib.hid (And.intro hsz (And.intro hB0 (And.intro hk0 hk2)))
  clear hsz hB0 hk0 hk2
  gi_wp2_with fail
  obtain ⟨W0, hW0⟩ : ∃ W0, (w.alloc (.cells #[.bool false] 4)).alloc (.cells #[.slice A n c] 22) = W0 := ⟨_, rfl⟩
  rw [hW0] at HW ⊢
  clear hW0
  refine wpIn_rangeFunc_L rfl (by omega) (gf := 62) (lb := #[.pointer (some ⟨w.heap.size + 1, 0, none⟩)]) rfl trivial (enters_of Tryd.func62 (by kernel_rfl) rfl)
    (levels_seq _ w W0 (w.heap.size + 1) d A n c xs HN.out.1 HN.out.2.1 HN.out.2.2.1 HN.out.2.2.2.1 HN.out.2.2.2.2.1 HR.out HW.out.2.1 (by omega) HW.out.2.2.2 HN.out.2.2.2.2.2.1) ?hps ?hX HW.out.2.1.size (by rw [HW.out.1]; omega)
    (fun i W => W.heap[w.heap.size]? = some (.cells #[.bool false] 4 (0, 0)) ∧ doubAt xs i = false ∧ Below w.heap.size w W)
    (fun c i W => c = .ret ∧ W.heap[w.heap.size]? = some (.cells #[.bool true] 4 (0, 0)) ∧ i ≤ d + 1 ∧ doubAt xs i = true ∧ Below w.heap.size w W) ?hI ?hIx ⟨HW.out.2.2.1, rfl, HW.out.2.1⟩
    (fun ys => { tmps := #[.slice A n c, undef, .pointer (some ⟨w.heap.size, 0, none⟩), ys.getD 0 undef, undef, .slice A n c, .func (.func 62) #[] #[.pointer (some ⟨w.heap.size + 1, 0, none⟩)], ys.getD 0 undef, undef, undef, undef, undef, undef, undef, undef, undef, undef, undef, undef, undef, undef, undef, undef, undef], defers := [] }) ?assign ?body ?done ?stop
  case hps =>
    rintro i ys W ⟨A1, n1, c1, rfl, _⟩
    rfl
  case hX =>
    intro i ys B r o hx hl
    exact hx.putObj hl (by have := HW.out.1; omega) o
  case hI =>
    rintro i B1 B2 ⟨h1, h2, h4⟩ hs
    have hz := HW.out.1
    exact ⟨(hs.block _ (blk_lt h1) ⟨by omega, by omega⟩).trans h1, h2, h4.trans (hs.below (fun k hk => ⟨by omega, by omega⟩) h4.size)⟩
  case hIx =>
    rintro c' i B1 B2 ⟨h0, h1, h2, h3, h4⟩ hs
    have hz := HW.out.1
    exact ⟨h0, (hs.block _ (blk_lt h1) ⟨by omega, by omega⟩).trans h1, h2, h3, h4.trans (hs.below (fun k hk => ⟨by omega, by omega⟩) h4.size)⟩
  case assign =>
    rintro l i ys W K ⟨A1, n1, c1, rfl, _⟩ hK
    have e0 : (#[Value.slice A1 n1 c1] : Array Value).getD 0 undef = .slice A1 n1 c1 := rfl
    simp only [e0] at hK
    gi_wp2
    exact hK
  case body =>
    rintro l i ys W ⟨h1, h2, h4⟩ ⟨A1, n1, c1, rfl, g1, g2, g3⟩ hsz
    have hC := g2.reads g3
    have hn1 := g2.1
    have hxh := lev_Hs HN.out.2.2.2.1 i
    clear g2
    have e0 : (#[Value.slice A1 n1 c1] : Array Value).getD 0 undef = .slice A1 n1 c1 := rfl
    simp only [e0]
    have hn1l : n1 ≤ 100000 := by
      have := wideP_le xs.length i
      have := lev_len xs i
      have := HN.out.1
      have := HN.out.2.2.1
      omega
    have HH1 := Lib.hid (And.intro h1 (And.intro h2 (And.intro h4 (And.intro hsz (And.intro hC (And.intro hn1 (And.intro hxh g1)))))))
    clear e0 h1 h2 h4 hsz hC hn1 hxh g1
    gi_wp2_with fail
    gi_loopw [4] (fun s wr => ∃ k m : Nat, s = .int .i64 ((2 * k + 1 : Nat) : Int) ∧ wr = W.drewN m ∧ Hid (2 * k ≤ n1 + 1 ∧ ∀ j, j < k → (rdH (lev xs i) (2 * j + 1) == rdH (lev xs i) (2 * j)) = false)) (fun s _ => (n1 + 3 - (intOf s).toNat))
    case atStart => exact ⟨0, 0, rfl, rfl, Lib.hid ⟨by omega, fun j hj => absurd hj (by omega)⟩⟩
    case round =>
      obtain ⟨k, m, rfl, rfl, H⟩ := hrel
      by_cases hlt : 2 * k + 1 < n1
      · obtain ⟨h1, h2, h4, hsz, hC, hn1, hxh, g1⟩ := HH1.out
        obtain ⟨bb, o, rfl, hbl, hrg⟩ := C_hash (by rw [← hn1]; exact hC) (by omega)
        obtain ⟨i0, hi0⟩ : ∃ i, 2 * k = i := ⟨_, rfl⟩
        rw [hi0] at hlt ⊢
        obtain ⟨hr1, hs1⟩ := hrg (i0 + 1) (by omega)
        obtain ⟨hr0, hs0⟩ := hrg i0 (by omega)
        obtain ⟨p, hp⟩ : ∃ p, rdH (lev xs i) (i0 + 1) = p := ⟨_, rfl⟩
        obtain ⟨q, hq⟩ : ∃ p, rdH (lev xs i) i0 = p := ⟨_, rfl⟩
        rw [hp] at hr1 hs1
        rw [hq] at hr0 hs0
        have hu := Tryd.underlying25
        have hi1 : (Tryd.prog.info? 25).map (·.size) = some (nums .u8 p).length := by rw [nums_len, hs1]; exact (zero_of_info infoHash).2
        have hi2 : (Tryd.prog.info? 25).map (·.size) = some (nums .u8 q).length := by rw [nums_len, hs0]; exact (zero_of_info infoHash).2
        have q0 := fun u => eqH p q hs1 hs0 u
        obtain ⟨P, hP⟩ : ∃ P, nums .u8 p = P := ⟨_, rfl⟩
        obtain ⟨Q, hQ⟩ : ∃ P, nums .u8 q = P := ⟨_, rfl⟩
        rw [hP] at hi1 hr1 q0
        rw [hQ] at hi2 hr0 q0
        have hf0 : (0 : Int) ≤ ((i0 + 1 : Nat) : Int) := by omega
        have hf1 : ((i0 + 1 : Nat) : Int) < (n1 : Int) := by omega
        have hf2 : (0 : Int) ≤ (i0 : Int) := by omega
        have hf3 : (i0 : Int) < (n1 : Int) := by omega
        have hl : (i0 : Int) + 1 < (n1 : Int) := by omega
        have hl2 : ¬ ((i0 : Int) + 1 < 0) := by omega
        have hw1 : IntKind.i64.wrap (i0 : Int) = (i0 : Int) := IntWalk.i64_in _ (by omega)
        have hPQ := Lib.hid (And.intro hp (And.intro hq hi0))
        clear h1 h2 h4 hsz hC hn1 hxh g1 hrg hp hq hP hQ hs1 hs0 hi0
        gi_wp2_with fail
        have hHeld : (W.drewN m).drew.rangeAt bb (o + (i0 + 1) * 32) P ∧ (W.drewN m).drew.rangeAt bb (o + i0 * 32) Q := ⟨fun j v h => hr1 j v h, fun j v h => hr0 j v h⟩
        refine wpIn_round_any (by kernel_rfl) (by rfl) (fun ⟨_, _, h⟩ => h) ?_
        refine wpAny_of_held (S := fun u => u.rangeAt bb (o + (i0 + 1) * 32) P ∧ u.rangeAt bb (o + i0 * 32) Q) _ _ _ _ ?_
        refine wpAnyH_take (i := 0) (oi := ({ dst := some 14, op := Op.move (Operand.tmp 3), type := 22, pos := "merkle.go:53", after := #[], guard := none } : Oper)) (v := .slice (some ⟨bb, o, none⟩) n1 c1) rfl (by kernel_rfl) (by kernel_rfl) (by kernel_rfl) (fun _ _ _ h => h) (Or.inl ⟨by rfl, fun w hSw => by go_simp⟩) hHeld ?_
        simp only [Act.put, List.setIfInBounds_toArray, List.set_cons_zero, List.set_cons_succ]
        refine wpAnyH_take (i := 1) (oi := ({ dst := some 15, op := Op.move (Operand.tmp 4), type := 3, pos := "merkle.go:53", after := #[], guard := none } : Oper)) (v := .int .i64 ((i0 + 1 : Nat) : Int)) rfl (by kernel_rfl) (by kernel_rfl) (by kernel_rfl) (fun _ _ _ h => h) (Or.inl ⟨by rfl, fun w hSw => by go_simp⟩) hHeld ?_
        simp only [Act.put, List.setIfInBounds_toArray, List.set_cons_zero, List.set_cons_succ]
        refine wpAnyH_take (i := 2) (oi := ({ dst := some 16, op := Op.indexAddr 22 (Operand.tmp 14) (Operand.tmp 15), type := 0, pos := "merkle.go:53", after := #[{ on := 0, ground := Ground.data }, { on := 1, ground := Ground.data }], guard := none } : Oper)) (v := .pointer (some ⟨bb, o + (i0 + 1) * 32, none⟩)) rfl (by kernel_rfl) (by kernel_rfl) (by kernel_rfl) (fun _ _ _ h => h) (Or.inl ⟨by rfl, fun w hSw => by go_simp⟩) hHeld ?_
        simp only [Act.put, List.setIfInBounds_toArray, List.set_cons_zero, List.set_cons_succ]
        refine wpAnyH_take (i := 3) (oi := ({ dst := some 17, op := Op.load 25 (Operand.tmp 16), type := 25, pos := "merkle.go:53", after := #[{ on := 2, ground := Ground.data }], guard := none } : Oper)) (v := .agg P.toArray) rfl (by kernel_rfl) (by kernel_rfl) (by kernel_rfl) (fun _ _ _ h => h) (yieldsIf_load_mid (by rfl) _ _ rfl bb (o + (i0 + 1) * 32) rfl P _ (fun _ h => h.1) hu rfl hi1) hHeld ?_
        simp only [Act.put, List.setIfInBounds_toArray, List.set_cons_zero, List.set_cons_succ]
        refine wpAnyH_take (i := 4) (oi := ({ dst := some 18, op := Op.move (Operand.tmp 3), type := 22, pos := "merkle.go:53", after := #[], guard := none } : Oper)) (v := .slice (some ⟨bb, o, none⟩) n1 c1) rfl (by kernel_rfl) (by kernel_rfl) (by kernel_rfl) (fun _ _ _ h => h) (Or.inl ⟨by rfl, fun w hSw => by go_simp⟩) hHeld ?_
        simp only [Act.put, List.setIfInBounds_toArray, List.set_cons_zero, List.set_cons_succ]
        refine wpAnyH_take (i := 5) (oi := ({ dst := some 19, op := Op.move (Operand.tmp 4), type := 3, pos := "merkle.go:53", after := #[], guard := none } : Oper)) (v := .int .i64 ((i0 + 1 : Nat) : Int)) rfl (by kernel_rfl) (by kernel_rfl) (by kernel_rfl) (fun _ _ _ h => h) (Or.inl ⟨by rfl, fun w hSw => by go_simp⟩) hHeld ?_
        simp only [Act.put, List.setIfInBounds_toArray, List.set_cons_zero, List.set_cons_succ]
        refine wpAnyH_take (i := 6) (oi := ({ dst := some 20, op := Op.binOp BinOp.sub 3 (Operand.tmp 19) (Operand.const (Value.int IntKind.i64 1)) 3, type := 3, pos := "merkle.go:53", after := #[{ on := 5, ground := Ground.data }], guard := none } : Oper)) (v := .int .i64 (i0 : Int)) rfl (by kernel_rfl) (by kernel_rfl) (by kernel_rfl) (fun _ _ _ h => h) (Or.inl ⟨by rfl, fun w hSw => by go_simp⟩) hHeld ?_
        simp only [Act.put, List.setIfInBounds_toArray, List.set_cons_zero, List.set_cons_succ]
        refine wpAnyH_take (i := 7) (oi := ({ dst := some 21, op := Op.indexAddr 22 (Operand.tmp 18) (Operand.tmp 20), type := 0, pos := "merkle.go:53", after := #[{ on := 4, ground := Ground.data }, { on := 6, ground := Ground.data }], guard := none } : Oper)) (v := .pointer (some ⟨bb, o + i0 * 32, none⟩)) rfl (by kernel_rfl) (by kernel_rfl) (by kernel_rfl) (fun _ _ _ h => h) (Or.inl ⟨by rfl, fun w hSw => by go_simp⟩) hHeld ?_
        simp only [Act.put, List.setIfInBounds_toArray, List.set_cons_zero, List.set_cons_succ]
        refine wpAnyH_take (i := 8) (oi := ({ dst := some 22, op := Op.load 25 (Operand.tmp 21), type := 25, pos := "merkle.go:53", after := #[{ on := 7, ground := Ground.data }], guard := none } : Oper)) (v := .agg Q.toArray) rfl (by kernel_rfl) (by kernel_rfl) (by kernel_rfl) (fun _ _ _ h => h) (yieldsIf_load_mid (by rfl) _ _ rfl bb (o + i0 * 32) rfl Q _ (fun _ h => h.2) hu rfl hi2) hHeld ?_
        simp only [Act.put, List.setIfInBounds_toArray, List.set_cons_zero, List.set_cons_succ]
        refine wpAnyH_take (i := 9) (oi := ({ dst := some 23, op := Op.binOp BinOp.eql 25 (Operand.tmp 17) (Operand.tmp 22) 25, type := 4, pos := "merkle.go:53", after := #[{ on := 3, ground := Ground.data }, { on := 8, ground := Ground.data }], guard := none } : Oper)) (v := .bool (p == q)) rfl (by kernel_rfl) (by kernel_rfl) (by kernel_rfl) (fun _ _ _ h => h) (Or.inl ⟨by rfl, fun w hSw => by go_simp⟩) hHeld ?_
        simp only [Act.put, List.setIfInBounds_toArray, List.set_cons_zero, List.set_cons_succ]
        refine wpAnyH_done (by kernel_rfl) ?_ _
        clear q0 hHeld
        obtain ⟨m2, hm2⟩ : ∃ m2, (W.drewN m).drew = W.drewN m2 := ⟨m + 1, World.drew_drewN ..⟩
        rw [hm2]
        clear hm2
        by_cases hpq : p = q
        · have hb : (p == q) = true := by simpa using hpq
          rw [hb]
          have hc := blk_cell HH1.out.1 0
          have hf := blk_frozen HH1.out.1 0
          have hc2 : (W.drewN m2).cell? ⟨w.heap.size, 0, none⟩ = some (.bool false) := hc
          have hf2 : (W.drewN m2).frozen? ⟨w.heap.size, 0, none⟩ = false := hf
          have hc3 : W.cell? ⟨w.heap.size, 0, none⟩ = some (.bool false) := hc
          have hf3 : W.frozen? ⟨w.heap.size, 0, none⟩ = false := hf
          clear hc hf hb
          gi_wp2
          obtain ⟨h1, h2, h4, hsz, hC, hn1, hxh, g1⟩ := HH1.out
          have hz := HW.out.1
          refine ⟨(Same.of_below (pw_below_drewN (Below.refl _ _) m2)).trans (Same.setCell _ (p := ⟨w.heap.size, 0, none⟩) _ (by show ¬ (w.heap.size < w.heap.size ∨ W0.heap.size ≤ w.heap.size ∨ w.heap.size = w.heap.size + 1); omega)), rfl, blk_set (blk_drewN h1 m2) 0 _, by omega, ?_, (pw_below_drewN h4 m2).setCell (p := ⟨w.heap.size, 0, none⟩) (Nat.le_refl _) _⟩
          rw [doubAt, h2, Bool.false_or]
          exact paired_of (k := k) (by have := hPQ.out.2.2; clear hw1; omega) (by rw [hPQ.out.2.2, hPQ.out.1, hPQ.out.2.1, hpq]; simp)
        · have hb : (p == q) = false := by simpa using hpq
          rw [hb]
          have HPN := Lib.hid (And.intro hb hPQ.out)
          clear hb hPQ hpq
          gi_wp2
          go_roundw
          case rel =>
            obtain ⟨hb, hp, hq, hi0⟩ := HPN.out
            clear hw1
            refine ⟨k + 1, _, ?_, rfl, Lib.hid ⟨by omega, fun j hj => ?_⟩⟩
            · congr 1
              omega
            · by_cases e : j = k
              · subst e
                rw [hi0, hp, hq]
                exact hb
              · exact H.out.2 j (by omega)
          case measure =>
            have h9 := HPN.out.2.2.2
            clear hw1
            simp only [intOf]
            omega
      · have hk2 : pairedP (lev xs i) = false := paired_not (fun j hj => H.out.2 j (by
          have := HH1.out.2.2.2.2.2.1
          omega))
        have hg : decide (((2 * k + 1 : Nat) : Int) < (n1 : Int)) = false := decide_eq_false (by omega)
        gi_wp2
        obtain ⟨h1, h2, h4, hsz, hC, hn1, hxh, g1⟩ := HH1.out
        exact ⟨Same.of_below (pw_below_drewN (Below.refl _ _) m), blk_drewN h1 m, by rw [doubAt, h2, hk2]; rfl, pw_below_drewN h4 m⟩
  case done =>
    rintro i W rfl ⟨h1, h2, h4⟩ hK
    have hc := blk_cell h1 0
    have hf := blk_frozen h1 0
    have hc2 : W.cell? ⟨w.heap.size, 0, none⟩ = some (.bool false) := hc
    have HH1 := Lib.hid (And.intro h1 (And.intro h2 (And.intro h4 hK)))
    clear h1 h2 h4 hK hc
    gi_wp2
    obtain ⟨h1, h2, h4, hK⟩ := HH1.out
    have hsz := HW.out.1
    have hK2 : (W.setCell ⟨w.heap.size, 0, none⟩ (.bool false)).heap[W0.heap.size]? = some (.deferred (some [])) := (Below.heap_setCell _ _ _ _ (by show W0.heap.size ≠ w.heap.size; omega)).trans hK
    have h6 := (World.putObj_heap_other (w := W.setCell ⟨w.heap.size, 0, none⟩ (.bool false)) (r := W0.heap.size) (o := .deferred none) (show w.heap.size ≠ W0.heap.size by omega)).trans (blk_set h1 0 (.bool false))
    have hc5 := blk_cell h6 0
    refine ⟨by simp, .inl ⟨_, _, rfl, run_takeDeferred hK2, ?_⟩⟩
    refine ⟨.bool false, ?_, by rw [HN.out.2.2.2.2.2.2, h2], ?_⟩
    · have hc6 : ((W.setCell ⟨w.heap.size, 0, none⟩ (.bool false)).putObj W0.heap.size (.deferred none)).cell? ⟨w.heap.size, 0, none⟩ = some (.bool false) := hc5
      simp [results, Tryd.f26, go_sem, hc6]
    · have b1 : Below w.heap.size w (W.setCell ⟨w.heap.size, 0, none⟩ (.bool false)) := h4.setCell (p := ⟨w.heap.size, 0, none⟩) (Nat.le_refl _) _
      exact b1.trans (⟨rfl, rfl, rfl, by simp, fun k hk => World.putObj_heap_other (by omega)⟩ : Below w.heap.size (W.setCell ⟨w.heap.size, 0, none⟩ (.bool false)) ((W.setCell ⟨w.heap.size, 0, none⟩ (.bool false)).putObj W0.heap.size (.deferred none)))
  case stop =>
    rintro c' i W ⟨rfl, h1, h2, h3, h4⟩ hK
    have HH1 := Lib.hid (And.intro h1 (And.intro h2 (And.intro h3 (And.intro h4 hK))))
    clear h1 h2 h3 h4 hK
    gi_wp2
    obtain ⟨h1, h2, h3, h4, hK⟩ := HH1.out
    have hsz := HW.out.1
    have h6 := (World.putObj_heap_other (w := W) (r := W0.heap.size) (o := .deferred none) (show w.heap.size ≠ W0.heap.size by omega)).trans h1
    have hc5 := blk_cell h6 0
    refine ⟨by simp, .inl ⟨_, _, rfl, run_takeDeferred hK, ?_⟩⟩
    refine ⟨.bool true, ?_, by rw [HN.out.2.2.2.2.2.2, doubAt_mono h3 _ h2], ?_⟩
    · have hc6 : (W.putObj W0.heap.size (.deferred none)).cell? ⟨w.heap.size, 0, none⟩ = some (.bool true) := hc5
      simp [results, Tryd.f26, go_sem, hc6]
    · exact h4.trans (⟨rfl, rfl, rfl, by simp, fun k hk => World.putObj_heap_other (by omega)⟩ : Below w.heap.size W (W.putObj W0.heap.size (.deferred none)))
end Go.Proofs.YtlmcdkjobdcflaaDoor.Hand
