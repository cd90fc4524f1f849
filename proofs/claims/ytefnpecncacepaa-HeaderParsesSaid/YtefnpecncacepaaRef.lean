/- The document's functions of the codec, walked: Text, Number. -/
import Derived.Test.YtefnpecncacepaaProg
import Derived.Below
import Derived.Deep.Draws
import Derived.Deep.AppendLies
import Derived.Maps.AppendAt
import Derived.OwnWalk
import Derived.Laws.BytesArg
import Derived.Laws.MakeOwn
import Derived.Laws.OwnMore
import Derived.Deep.OwnRows
import Derived.Tactics
import Derived.Lib.ConvBytes
import Derived.Laws.Slices
import Derived.WalkKit
import Derived.KernelRfl
import Derived.RowKit3
import Derived.Deep.LoopGhost
import Derived.Deep.QuietTactic
import Derived.BigQuiet
import Derived.WideLaws
import Derived.Deep.DeepCutAuto
import Derived.Deep.CutBlock
import Derived.Deep.RegionHeld3
import Derived.Laws.Rows
import Derived.Lib.AppendStr
import Derived.ArgAppend
import Derived.Laws.IdiomCopy
import Derived.OrdersHeld
import Derived.Laws.BitsLemmas
import Derived.RowKit
import Derived.StillTailTactics
import Derived.Test.YtefnpecncacepaaWWords
import Derived.Test.YtefnpecncacepaaWLast
import Derived.Test.YtefnpecncacepaaWMore
import Derived.Lib.Hide
import Derived.Outline
import Derived.WalkSpells
import Derived.Deep.RegionLaw
import Derived.Deep.RegionHeld3
import Derived.BigRegion
import Derived.Deep.DrawnRows
import Derived.Test.YtefnpecncacepaaRefPlain
import Derived.Test.YtefnpecncacepaaStrBytes
namespace Go.Proofs.Ytefnpecncacepaa.Hand
open Go Go.RowKit Go.Proofs.Ytefnpecncacepaa.Plain Go.Proofs.Ytefnpecncacepaa.PAll Go.Proofs.YtefnpecncacepaaW.PrintWords Go.Proofs.YtefnpecncacepaaW.PrintLast Go.Proofs.YtefnpecncacepaaW.PrintMore
set_option linter.unusedVariables false
set_option linter.unusedSimpArgs false
attribute [local go_sem ↓] Go.wp_at_zero Go.wp_at_succ
theorem far_cell {w : World} {b r o : Nat} {v : Value} (h : w.cell? ⟨b, o, none⟩ = some v) (hne : b ≠ r) (j : Nat) (u : Value) : (w.setCell ⟨r, j, none⟩ u).cell? ⟨b, o, none⟩ = some v := by
  rw [← h]
  exact World.cell?_of_block (Below.heap_setCell w ⟨r, j, none⟩ u b hne)
def inV (s : ByteArray) (e : Int) : Value := .agg #[.string s, .int .i64 e]
theorem rtake_calls (xs : List Int) (e n : Int) (hl : xs.length ≤ 1000000) (w : World) : Calls Try.prog 25 #[.agg #[.string (strOfNums xs), .int .i64 e], .int .i64 n] w fun x w' => x = .returned (.tuple #[.agg #[.string (strOfNums (xs.drop (takeR xs 0 e n).2.1)), .int .i64 (takeR xs 0 e n).2.2], .string (strOfNums (takeR xs 0 e n).1)]) ∧ Below w.heap.size w w' :=
  mastheadref06_Take.calls _ _ _ _ _ _ w (rtake_tells xs e n hl)
theorem held_same (a : Int) (w : World) : Calls Try.prog 26 #[.int .i64 a] w fun e w' => e = .returned (.int .i64 (wid a : Nat)) ∧ w = w' := by
  have hw : ((wid a : Nat) : Int) = if a < 0 then 0 else if 8 < a then 8 else a := by
    unfold wid mn mx
    repeat' split
    all_goals omega
  rw [hw]
  clear hw
  by_cases c1 : a < 0
  · have f1 : decide (a < 0) = true := decide_eq_true c1
    rw [if_pos c1]
    go_enter Try.func26, Try.ntmps26
    go_wp2
    go_ret
    exact ⟨rfl, rfl⟩
  · have f1 : decide (a < 0) = false := decide_eq_false c1
    rw [if_neg c1]
    by_cases c2 : 8 < a
    · have f2 : decide (8 < a) = true := decide_eq_true c2
      rw [if_pos c2]
      go_enter Try.func26, Try.ntmps26
      go_wp2
      go_ret
      exact ⟨rfl, rfl⟩
    · have f2 : decide (8 < a) = false := decide_eq_false c2
      rw [if_neg c2]
      go_enter Try.func26, Try.ntmps26
      go_wp2
      go_ret
      exact ⟨rfl, rfl⟩
set_option maxHeartbeats 4000000 in
set_option maxRecDepth 100000 in
theorem rnumber_calls (xs : List Int) (e a : Int) (hl : xs.length ≤ 1000000) (hb : ∀ x ∈ xs, 0 ≤ x ∧ x < 256) (w : World) : Calls Try.prog 22 #[.agg #[.string (strOfNums xs), .int .i64 e], .int .i64 a] w fun x w' => x = .returned (.tuple #[.agg #[.string (strOfNums (xs.drop (numR xs 0 e a).2.1)), .int .i64 (numR xs 0 e a).2.2], .int .u64 (numR xs 0 e a).1]) ∧ Below w.heap.size w w' := by
  have HT := Lib.hid (fun (w : World) => rtake_calls xs e (wid a : Nat) hl w)
  have hby := takeR_bytes hb 0 e (wid a : Nat)
  have hln := takeR_len xs 0 e (wid a : Nat)
  have hw8 := wid_le a
  unfold numR
  obtain ⟨r, hr⟩ : ∃ r, takeR xs 0 e (wid a : Nat) = r := ⟨_, rfl⟩
  rw [hr] at HT hby hln ⊢
  obtain ⟨ys, p1, x1⟩ := r
  simp only at HT hby hln ⊢
  have HVAL := Lib.hid (value_tells ys hby (by omega) 20 (by omega))
  obtain ⟨s, hs⟩ : ∃ s, strOfNums xs = s := ⟨_, rfl⟩
  obtain ⟨s1, hs1⟩ : ∃ s1, strOfNums (xs.drop p1) = s1 := ⟨_, rfl⟩
  have HY : Hid (ys.length ≤ 8) := Lib.hid (by omega)
  rw [hs, hs1] at HT
  rw [hs, hs1]
  have HBY := Lib.hid hby
  have HYM := Lib.hid (show ys.length ≤ 9223372036854775807 by omega)
  have kb := fun W => print_bytes (P := Try.prog) 9 22 5 Try.underlying9 Try.underlying22 Try.underlying5 (strOfNums ys) W
  simp only [strOfNums_size] at kb
  clear hb hl hby hln hr hs hs1
  go_enter Try.func22, Try.ntmps22
  go_wp2_with fail
  generalize hW2 : World.alloc _ _ = W2
  have HB2 := Lib.hid (show Below w.heap.size w W2 by rw [← hW2]; exact below_alloc (below_alloc (Below.refl _ _) _) _)
  have hk0 : W2.heap[w.heap.size]? = some (.cells #[.string s, .int .i64 e] 57 (0, 0)) := by rw [← hW2]; exact heap_alloc2_old _ _ _
  have hk1 : W2.heap[w.heap.size + 1]? = some (.cells #[.string ⟨#[]⟩, .int .i64 0] 57 (0, 0)) := by rw [← hW2]; exact heap_alloc2_new _ _ _
  have c0 := blk_cell hk0 0
  have c1 := blk_cell hk0 1
  have HK0 := Lib.hid hk0
  have HK1 := Lib.hid hk1
  have hsz2 := (show W2.heap.size = w.heap.size + 2 by rw [← hW2]; simp)
  simp only [List.getElem?_toArray, List.getElem?_cons_zero, List.getElem?_cons_succ] at c0 c1
  clear hk0 hk1 hW2
  have n0 := World.new_ne W2 _ c0
  have n1 := World.new_ne W2 _ c1
  go_region_held3 (fun w' => w'.cell? ⟨w.heap.size, 0, none⟩ = some (.string s) ∧ w'.cell? ⟨w.heap.size, 1, none⟩ = some (.int .i64 e)) (first | go_keep)
    (first | (go_at_call 26; refine (held_same _ _).mono ?_; rintro y w3 ⟨rfl, rfl⟩)
           | (go_at_call 25; refine (HT.out _).mono ?_; rintro y w4 ⟨rfl, hb4⟩; obtain ⟨hc4, hf4⟩ := bcell hb4; have hz4 := hb4.size; have HB4 := Lib.hid hb4; have k0 : w4.cell? ⟨w.heap.size, 0, none⟩ = some (.string s) := pw_cell_below hb4 (by go_keep); have k1 : w4.cell? ⟨w.heap.size, 1, none⟩ = some (.int .i64 e) := pw_cell_below hb4 (by go_keep); clear hb4))
  all_goals first
    | (have HB3 := Lib.hid ((below_drew HB2.out).trans (Below.mono HB4.out (by have := HB2.out.size; exact this)))
       have HB5 := Lib.hid (show Below w.heap.size w (w4.alloc (.cells #[.string s1, .int .i64 x1] 57)) from below_alloc HB3.out _)
       have HR5 := Lib.hid (show (w4.alloc (.cells #[.string s1, .int .i64 x1] 57)).heap[w.heap.size + 1]? = some (.cells #[.string ⟨#[]⟩, .int .i64 0] 57 (0, 0)) from (heap_alloc_old _ _ (by have h := hz4; have : W2.drew.heap.size = W2.heap.size := rfl; omega)).trans ((HB4.out.block _ (by show _ < W2.heap.size; omega)).trans HK1.out))
       have hk6 : (w4.alloc (.cells #[.string s1, .int .i64 x1] 57)).heap[w4.heap.size]? = some (.cells #[.string s1, .int .i64 x1] 57 (0, 0)) := heap_alloc_new _ _
       generalize (w4.alloc (.cells #[.string s1, .int .i64 x1] 57)) = W5 at *
       have BNE := Lib.hid (show w4.heap.size ≠ w.heap.size + 1 from by have h := hz4; have : W2.drew.heap.size = W2.heap.size := rfl; omega)
       generalize w4.heap.size = b6 at *
       clear hc4 hf4 hz4 k0 k1 c0 c1 n0 n1 hsz2)
    | (have HB3 := Lib.hid ((below_drew (below_alloc HB2.out (.cells #[.string ⟨#[]⟩, .int .i64 0] 57))).trans (Below.mono HB4.out (by have := (below_alloc HB2.out (.cells #[.string ⟨#[]⟩, .int .i64 0] 57)).size; exact this)))
       have h6 : w4.heap[w.heap.size + 2]? = some (.cells #[.string ⟨#[]⟩, .int .i64 0] 57 (0, 0)) := (HB4.out.block _ (by show _ < (W2.alloc _).heap.size; simp; omega)).trans (by rw [← hsz2]; exact heap_alloc_new _ _)
       have HR5 := Lib.hid (show ((w4.setCell ⟨w.heap.size + 2, 0, none⟩ (.string s1)).setCell ⟨w.heap.size + 2, 1, none⟩ (.int .i64 x1)).heap[w.heap.size + 1]? = some (.cells #[.string ⟨#[]⟩, .int .i64 0] 57 (0, 0)) from (Below.heap_setCell _ _ _ _ (by simp)).trans ((Below.heap_setCell _ _ _ _ (by simp)).trans ((HB4.out.block _ (by show _ < (W2.alloc _).heap.size; simp; omega)).trans ((heap_alloc_old _ _ (by omega)).trans HK1.out))))
       have hk6 : ((w4.setCell ⟨w.heap.size + 2, 0, none⟩ (.string s1)).setCell ⟨w.heap.size + 2, 1, none⟩ (.int .i64 x1)).heap[w.heap.size + 2]? = some (.cells #[.string s1, .int .i64 x1] 57 (0, 0)) := blk_set (blk_set h6 0 _) 1 _
       have HB5 := Lib.hid (show Below w.heap.size w ((w4.setCell ⟨w.heap.size + 2, 0, none⟩ (.string s1)).setCell ⟨w.heap.size + 2, 1, none⟩ (.int .i64 x1)) from (HB3.out.setCell (p := ⟨w.heap.size + 2, 0, none⟩) (by simp) _).setCell (p := ⟨w.heap.size + 2, 1, none⟩) (by simp) _)
       generalize ((w4.setCell ⟨w.heap.size + 2, 0, none⟩ (.string s1)).setCell ⟨w.heap.size + 2, 1, none⟩ (.int .i64 x1)) = W5 at *
       have BNE := Lib.hid (show w.heap.size + 2 ≠ w.heap.size + 1 from by omega)
       generalize w.heap.size + 2 = b6 at *
       clear hc4 hf4 hz4 k0 k1 c0 c1 n0 n1 hsz2)
  all_goals
    have c0 := blk_cell hk6 0
    have c1 := blk_cell hk6 1
    simp only [List.getElem?_toArray, List.getElem?_cons_zero, List.getElem?_cons_succ] at c0 c1
    have hne := BNE.out
    clear hk6 HB4 HB2 HK0 HK1
    go_wp2_with fail
    have c0b := pw_cell_below (bytesW_below W5.drew (strOfNums ys)) c0
    have c1b := pw_cell_below (bytesW_below W5.drew (strOfNums ys)) c1
    go_region_law (first | (go_simp; go_at_call 27; refine (mastheadref01_Value.calls 20 _ _ ys _ _ (bytesW_C _ HBY.out HYM.out) (grownCap_ge _ _ _ _) HVAL.out).mono ?_; rintro y w7 ⟨rfl, hd⟩; have hb7 := (bytesW_below W5.drew (strOfNums ys)).trans (Below.mono hd.below (bytesW_below _ _).size); have HB7 := Lib.hid hb7; have k0 : w7.cell? ⟨b6, 0, none⟩ = some (.string s1) := pw_cell_below hb7 c0; have k1 : w7.cell? ⟨b6, 1, none⟩ = some (.int .i64 x1) := pw_cell_below hb7 c1; have hr7 := (hb7.block _ (blk_lt HR5.out)).trans HR5.out; have HR7 := Lib.hid hr7; have r0 := blk_cell hr7 0; have r1 := blk_cell hr7 1; have r2 := blk_frozen hr7 0; have r3 := blk_frozen hr7 1; simp only [List.getElem?_toArray, List.getElem?_cons_zero, List.getElem?_cons_succ] at r0 r1; clear hd hb7 hr7))
    all_goals
      have HR9 := Lib.hid (blk_set (blk_set HR7.out 0 (.string s1)) 1 (.int .i64 x1))
      have HB9 := Lib.hid (((HB5.out.trans ((Below.mono (pw_below_drewN (Below.refl _ _) 1) HB5.out.size).trans (Below.mono HB7.out HB5.out.size))).setCell (p := ⟨w.heap.size + 1, 0, none⟩) (by simp) (.string s1)).setCell (p := ⟨w.heap.size + 1, 1, none⟩) (by simp) (.int .i64 x1))
      clear r0 r1 r2 r3 k0 k1 c0 c1 c0b c1b
      go_wp2_with fail
      exact bodyPost_ret (results_ct rfl _ _ (w.heap.size + 1) 57 #[.string s1, .int .i64 x1] (0, 0) _ rfl HR9.out Try.underlying57 rfl (by kernel_rfl)) rfl ⟨rfl, HB9.out⟩
end Go.Proofs.Ytefnpecncacepaa.Hand
