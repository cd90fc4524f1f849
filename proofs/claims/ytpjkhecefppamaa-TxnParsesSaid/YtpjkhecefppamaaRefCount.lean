/- The document's Count, walked. -/
import Derived.Test.YtpjkhecefppamaaProg
import Derived.Below
import Derived.Deep.Draws
import Derived.Deep.AppendLies
import Derived.Maps.AppendAt
import Derived.OwnWalk
import Derived.Laws.BytesArg
import Derived.Laws.MakeOwn
import Derived.Laws.OwnMore
import Derived.Deep.OwnRows
import Derived.Tactics
import Derived.Lib.ConvBytes
import Derived.Laws.Slices
import Derived.WalkKit
import Derived.KernelRfl
import Derived.RowKit3
import Derived.Deep.LoopGhost
import Derived.Deep.QuietTactic
import Derived.BigQuiet
import Derived.WideLaws
import Derived.Deep.DeepCutAuto
import Derived.Deep.CutBlock
import Derived.Deep.RegionHeld3
import Derived.Laws.Rows
import Derived.Lib.AppendStr
import Derived.ArgAppend
import Derived.Laws.IdiomCopy
import Derived.OrdersHeld
import Derived.Laws.BitsLemmas
import Derived.RowKit
import Derived.StillTailTactics
import Derived.Test.YtpjkhecefppamaaWWords
import Derived.Test.YtpjkhecefppamaaWLast
import Derived.Test.YtpjkhecefppamaaWMore
import Derived.Lib.Hide
import Derived.Outline
import Derived.WalkSpells
import Derived.Lib.Strings
import Derived.Deep.RegionLaw
import Derived.Deep.DrawnRows
import Derived.Test.YtpjkhecefppamaaRefPlain
import Derived.Test.YtpjkhecefppamaaStrBytes
import Derived.Test.YtpjkhecefppamaaCount
namespace Go.Proofs.Ytpjkhecefppamaa.Hand
open Go Go.RowKit Go.Proofs.Ytpjkhecefppamaa.Plain Go.Proofs.Ytpjkhecefppamaa.PAll Go.Proofs.YtpjkhecefppamaaW.PrintWords Go.Proofs.YtpjkhecefppamaaW.PrintLast Go.Proofs.YtpjkhecefppamaaW.PrintMore
set_option linter.unusedVariables false
set_option linter.unusedSimpArgs false
attribute [local go_sem ↓] Go.wp_at_zero Go.wp_at_succ
theorem tolist_inj {a b : ByteArray} (h : a.toList = b.toList) : a = b := by
  apply ByteArray.ext
  apply Array.toList_inj.1
  rw [← Lib.toList_data, ← Lib.toList_data, h]
theorem tolist_ne {a b : ByteArray} (h : a ≠ b) : (a.toList == b.toList) = false := beq_eq_false_iff_ne.2 (fun e => h (tolist_inj e))
set_option maxHeartbeats 1000000 in
theorem rcount_err (s : ByteArray) (e most : Int) (he : e ≠ 0) (w : World) : Calls Try.prog 28 #[.agg #[.string s, .int .i64 e], .int .u64 most] w fun y w' => y = .returned (.tuple #[.agg #[.string s, .int .i64 e], .int .u64 0]) ∧ Below w.heap.size w w' := by
  have b0 : (e != 0) = true := bne_iff_ne.2 he
  clear he
  go_enter Try.func28, Try.ntmps28
  go_wp2_with fail
  exact bodyPost_ret (results_ct rfl _ _ (w.heap.size + 1) 69 #[.string s, .int .i64 e] (0, 0) _ rfl (heap_alloc2_new w _ _) Try.underlying69 rfl (by kernel_rfl)) rfl ⟨rfl, below_alloc (below_alloc (Below.refl _ _) _) _⟩
set_option maxHeartbeats 1000000 in
theorem rcount_none (s : ByteArray) (most : Int) (hs : s.size = 0) (w : World) : Calls Try.prog 28 #[.agg #[.string s, .int .i64 0], .int .u64 most] w fun y w' => y = .returned (.tuple #[.agg #[.string s, .int .i64 2], .int .u64 0]) ∧ Below w.heap.size w w' := by
  have f1 : decide (0 < (s.size : Int)) = false := decide_eq_false (by omega)
  have f1' : decide (0 < s.size) = false := decide_eq_false (by omega)
  have f2 : decide ((s.size : Int) < 1) = true := decide_eq_true (by omega)
  have f2' : decide (s.size < 1) = true := decide_eq_true (by omega)
  clear hs
  go_enter Try.func28, Try.ntmps28
  go_wp2_with fail
  exact bodyPost_ret (results_ct rfl _ _ (w.heap.size + 1) 69 #[.string s, .int .i64 2] (0, 0) _ rfl (heap_alloc2_new w _ _) Try.underlying69 rfl (by kernel_rfl)) rfl ⟨rfl, below_alloc (below_alloc (Below.refl _ _) _) _⟩
set_option maxHeartbeats 4000000 in
set_option maxRecDepth 100000 in
theorem rcount_bad0 (s : ByteArray) (b most : Int) (h0 : 0 < s.size) (hbt : ∀ h : 0 < s.size, ((s[0]'h).toNat : Int) = b) (b253 : (b == 253) = false) (b254 : (b == 254) = false) (b255 : (b == 255) = false) (l : List Int) (hl : ∀ x ∈ l, 0 ≤ x ∧ x < 256) (hll : l.length = 1) (n : Nat) (hn : n < 18446744073709551616) (hval : val l = (n : Int)) (hx : s.extract 0 1 = strOfNums l) (hsz : 1 ≤ s.size) (V : ByteArray) (hV : strOfNums (varB n) = V) (U : ByteArray) (hU : strOfNums l = U) (hne : V ≠ U) (w : World) : Calls Try.prog 28 #[.agg #[.string s, .int .i64 0], .int .u64 most] w fun y w' => y = .returned (.tuple #[.agg #[.string s, .int .i64 3], .int .u64 0]) ∧ Below w.heap.size w w' := by
  have f1 : decide (0 < (s.size : Int)) = true := decide_eq_true (by omega)
  have f1' : decide (0 < s.size) = true := decide_eq_true (by omega)
  have f1t := eq_true h0
  have f2 : decide ((s.size : Int) < 1) = false := decide_eq_false (by omega)
  have f2' : decide (s.size < 1) = false := decide_eq_false (by omega)
  have g1 : (1 ≤ s.size) = True := eq_true (by omega)
  have g2 : (1 ≤ (s.size : Int)) = True := eq_true (by omega)
  have kb := fun W => print_bytes (P := Try.prog) 9 26 5 Try.underlying9 Try.underlying26 Try.underlying5 (strOfNums l) W
  simp only [strOfNums_size] at kb
  have HVAL := Lib.hid (value_tells l hl (by omega) 20 (by omega))
  rw [hval] at HVAL
  have HVAR := Lib.hid (rvar_tells n hn 20 (by omega))
  rw [hV] at HVAR
  have HBY := Lib.hid hl
  have HYM := Lib.hid (show l.length ≤ 9223372036854775807 by omega)
  rw [hU] at hx
  have HU := Lib.hid hU
  rw [hU] at kb
  clear hU
  have hcmp3 : (V.toList == U.toList) = false := tolist_ne hne
  have hcmp4 : (V.toList = U.toList) = False := eq_false (fun h => hne (tolist_inj h))
  have hwr : IntKind.i64.wrap 1 = 1 := by decide
  clear h0 hl hll hn hval hV hsz hne
  go_enter Try.func28, Try.ntmps28
  go_wp2_with fail
  generalize hW2 : World.alloc _ _ = W2
  have HB2 := Lib.hid (show Below w.heap.size w W2 by rw [← hW2]; exact below_alloc (below_alloc (Below.refl _ _) _) _)
  have hk0 : W2.heap[w.heap.size]? = some (.cells #[.string s, .int .i64 0] 69 (0, 0)) := by rw [← hW2]; exact heap_alloc2_old _ _ _
  have hk1 : W2.heap[w.heap.size + 1]? = some (.cells #[.string ⟨#[]⟩, .int .i64 0] 69 (0, 0)) := by rw [← hW2]; exact heap_alloc2_new _ _ _
  have HK0 := Lib.hid hk0
  have HK1 := Lib.hid hk1
  have HSZ2 := Lib.hid (show W2.heap.size = w.heap.size + 1 + 1 by rw [← hW2]; simp)
  clear hk0 hk1 hW2
  have HBWC := Lib.hid (bytesW_C W2 HBY.out HYM.out)
  rw [HSZ2.out] at HBWC
  have HBWB := Lib.hid (bytesW_below W2 (strOfNums l))
  rw [HU.out] at HBWC HBWB
  (with_reducible refine (mastheadref01_Value.calls 20 _ _ l _ _ HBWC.out (grownCap_ge _ _ _ _) HVAL.out).mono ?_)
  rintro y w3 ⟨rfl, hd⟩
  have hb3 := HBWB.out.trans (Below.mono hd.below HBWB.out.size)
  have HB3 := Lib.hid (HB2.out.trans (Below.mono hb3 HB2.out.size))
  have HK03 := Lib.hid ((hb3.block _ (blk_lt HK0.out)).trans HK0.out)
  have HK13 := Lib.hid ((hb3.block _ (blk_lt HK1.out)).trans HK1.out)
  have k0 : w3.cell? ⟨w.heap.size, 0, none⟩ = some (.string s) := (blk_cell HK03.out 0).trans rfl
  clear hd hb3 kb
  go_wp2_with fail
  go_region_law (first | (go_simp; go_at_call 45; refine (mastheadref06_Var.calls 20 (n : Int) V _ HVAR.out).mono ?_; rintro y w4 ⟨rfl, hb4⟩; replace hb4 := below_of_drew hb4; have HB4 := Lib.hid (HB3.out.trans (Below.mono hb4 HB3.out.size)); have hk4 := (hb4.block _ (blk_lt HK03.out)).trans HK03.out; have HK14 := Lib.hid ((hb4.block _ (blk_lt HK13.out)).trans HK13.out); have k04 : w4.cell? ⟨w.heap.size, 0, none⟩ = some (.string s) := (blk_cell hk4 0).trans rfl; have r0 := blk_cell HK14.out 0; have r1 := blk_cell HK14.out 1; have r2 := blk_frozen HK14.out 0; have r3 := blk_frozen HK14.out 1; simp only [List.getElem?_toArray, List.getElem?_cons_zero, List.getElem?_cons_succ] at r0 r1; clear hb4 hk4))
  all_goals
    have HR9 := Lib.hid (blk_set (blk_set HK14.out 0 (.string s)) 1 (.int .i64 3))
    have HB9 := Lib.hid ((HB4.out.setCell (p := ⟨w.heap.size + 1, 0, none⟩) (by simp) (.string s)).setCell (p := ⟨w.heap.size + 1, 1, none⟩) (by simp) (.int .i64 3))
    go_wp2_with fail
    exact bodyPost_ret (results_ct rfl _ _ (w.heap.size + 1) 69 #[.string s, .int .i64 3] (0, 0) _ rfl HR9.out Try.underlying69 rfl (by kernel_rfl)) rfl ⟨rfl, HB9.out⟩
set_option maxHeartbeats 4000000 in
set_option maxRecDepth 100000 in
theorem rcount_big0 (s : ByteArray) (b most : Int) (h0 : 0 < s.size) (hbt : ∀ h : 0 < s.size, ((s[0]'h).toNat : Int) = b) (b253 : (b == 253) = false) (b254 : (b == 254) = false) (b255 : (b == 255) = false) (l : List Int) (hl : ∀ x ∈ l, 0 ≤ x ∧ x < 256) (hll : l.length = 1) (n : Nat) (hn : n < 18446744073709551616) (hval : val l = (n : Int)) (hx : s.extract 0 1 = strOfNums l) (hsz : 1 ≤ s.size) (V : ByteArray) (hV : strOfNums (varB n) = V) (U : ByteArray) (hU : strOfNums l = U) (hne : V = U) (hmo : most < n) (w : World) : Calls Try.prog 28 #[.agg #[.string s, .int .i64 0], .int .u64 most] w fun y w' => y = .returned (.tuple #[.agg #[.string s, .int .i64 4], .int .u64 0]) ∧ Below w.heap.size w w' := by
  have f1 : decide (0 < (s.size : Int)) = true := decide_eq_true (by omega)
  have f1' : decide (0 < s.size) = true := decide_eq_true (by omega)
  have f1t := eq_true h0
  have f2 : decide ((s.size : Int) < 1) = false := decide_eq_false (by omega)
  have f2' : decide (s.size < 1) = false := decide_eq_false (by omega)
  have g1 : (1 ≤ s.size) = True := eq_true (by omega)
  have g2 : (1 ≤ (s.size : Int)) = True := eq_true (by omega)
  have kb := fun W => print_bytes (P := Try.prog) 9 26 5 Try.underlying9 Try.underlying26 Try.underlying5 (strOfNums l) W
  simp only [strOfNums_size] at kb
  have HVAL := Lib.hid (value_tells l hl (by omega) 20 (by omega))
  rw [hval] at HVAL
  have HVAR := Lib.hid (rvar_tells n hn 20 (by omega))
  rw [hV] at HVAR
  have HBY := Lib.hid hl
  have HYM := Lib.hid (show l.length ≤ 9223372036854775807 by omega)
  rw [hU] at hx
  have HU := Lib.hid hU
  rw [hU] at kb
  clear hU
  subst hne
  have hmo2 : decide (most < (n : Int)) = true := decide_eq_true hmo
  have hwr : IntKind.i64.wrap 1 = 1 := by decide
  clear h0 hl hll hn hval hV hsz hmo
  go_enter Try.func28, Try.ntmps28
  go_wp2_with fail
  generalize hW2 : World.alloc _ _ = W2
  have HB2 := Lib.hid (show Below w.heap.size w W2 by rw [← hW2]; exact below_alloc (below_alloc (Below.refl _ _) _) _)
  have hk0 : W2.heap[w.heap.size]? = some (.cells #[.string s, .int .i64 0] 69 (0, 0)) := by rw [← hW2]; exact heap_alloc2_old _ _ _
  have hk1 : W2.heap[w.heap.size + 1]? = some (.cells #[.string ⟨#[]⟩, .int .i64 0] 69 (0, 0)) := by rw [← hW2]; exact heap_alloc2_new _ _ _
  have HK0 := Lib.hid hk0
  have HK1 := Lib.hid hk1
  have HSZ2 := Lib.hid (show W2.heap.size = w.heap.size + 1 + 1 by rw [← hW2]; simp)
  clear hk0 hk1 hW2
  have HBWC := Lib.hid (bytesW_C W2 HBY.out HYM.out)
  rw [HSZ2.out] at HBWC
  have HBWB := Lib.hid (bytesW_below W2 (strOfNums l))
  rw [HU.out] at HBWC HBWB
  (with_reducible refine (mastheadref01_Value.calls 20 _ _ l _ _ HBWC.out (grownCap_ge _ _ _ _) HVAL.out).mono ?_)
  rintro y w3 ⟨rfl, hd⟩
  have hb3 := HBWB.out.trans (Below.mono hd.below HBWB.out.size)
  have HB3 := Lib.hid (HB2.out.trans (Below.mono hb3 HB2.out.size))
  have HK03 := Lib.hid ((hb3.block _ (blk_lt HK0.out)).trans HK0.out)
  have HK13 := Lib.hid ((hb3.block _ (blk_lt HK1.out)).trans HK1.out)
  have k0 : w3.cell? ⟨w.heap.size, 0, none⟩ = some (.string s) := (blk_cell HK03.out 0).trans rfl
  clear hd hb3 kb
  go_wp2_with fail
  go_region_law (first | (go_simp; go_at_call 45; refine (mastheadref06_Var.calls 20 (n : Int) V _ HVAR.out).mono ?_; rintro y w4 ⟨rfl, hb4⟩; replace hb4 := below_of_drew hb4; have HB4 := Lib.hid (HB3.out.trans (Below.mono hb4 HB3.out.size)); have hk4 := (hb4.block _ (blk_lt HK03.out)).trans HK03.out; have HK14 := Lib.hid ((hb4.block _ (blk_lt HK13.out)).trans HK13.out); have k04 : w4.cell? ⟨w.heap.size, 0, none⟩ = some (.string s) := (blk_cell hk4 0).trans rfl; have r0 := blk_cell HK14.out 0; have r1 := blk_cell HK14.out 1; have r2 := blk_frozen HK14.out 0; have r3 := blk_frozen HK14.out 1; simp only [List.getElem?_toArray, List.getElem?_cons_zero, List.getElem?_cons_succ] at r0 r1; clear hb4 hk4))
  all_goals
    have HR9 := Lib.hid (blk_set (blk_set HK14.out 0 (.string s)) 1 (.int .i64 4))
    have HB9 := Lib.hid ((HB4.out.setCell (p := ⟨w.heap.size + 1, 0, none⟩) (by simp) (.string s)).setCell (p := ⟨w.heap.size + 1, 1, none⟩) (by simp) (.int .i64 4))
    go_wp2_with fail
    exact bodyPost_ret (results_ct rfl _ _ (w.heap.size + 1) 69 #[.string s, .int .i64 4] (0, 0) _ rfl HR9.out Try.underlying69 rfl (by kernel_rfl)) rfl ⟨rfl, HB9.out⟩
set_option maxHeartbeats 4000000 in
set_option maxRecDepth 100000 in
theorem rcount_ok0 (s : ByteArray) (b most : Int) (h0 : 0 < s.size) (hbt : ∀ h : 0 < s.size, ((s[0]'h).toNat : Int) = b) (b253 : (b == 253) = false) (b254 : (b == 254) = false) (b255 : (b == 255) = false) (l : List Int) (hl : ∀ x ∈ l, 0 ≤ x ∧ x < 256) (hll : l.length = 1) (n : Nat) (hn : n < 18446744073709551616) (hval : val l = (n : Int)) (hx : s.extract 0 1 = strOfNums l) (hsz : 1 ≤ s.size) (V : ByteArray) (hV : strOfNums (varB n) = V) (U : ByteArray) (hU : strOfNums l = U) (hne : V = U) (hmo : (n : Int) ≤ most) (w : World) : Calls Try.prog 28 #[.agg #[.string s, .int .i64 0], .int .u64 most] w fun y w' => y = .returned (.tuple #[.agg #[.string (s.extract 1 s.size), .int .i64 0], .int .u64 (n : Int)]) ∧ Below w.heap.size w w' := by
  have f1 : decide (0 < (s.size : Int)) = true := decide_eq_true (by omega)
  have f1' : decide (0 < s.size) = true := decide_eq_true (by omega)
  have f1t := eq_true h0
  have f2 : decide ((s.size : Int) < 1) = false := decide_eq_false (by omega)
  have f2' : decide (s.size < 1) = false := decide_eq_false (by omega)
  have g1 : (1 ≤ s.size) = True := eq_true (by omega)
  have g2 : (1 ≤ (s.size : Int)) = True := eq_true (by omega)
  have kb := fun W => print_bytes (P := Try.prog) 9 26 5 Try.underlying9 Try.underlying26 Try.underlying5 (strOfNums l) W
  simp only [strOfNums_size] at kb
  have HVAL := Lib.hid (value_tells l hl (by omega) 20 (by omega))
  rw [hval] at HVAL
  have HVAR := Lib.hid (rvar_tells n hn 20 (by omega))
  rw [hV] at HVAR
  have HBY := Lib.hid hl
  have HYM := Lib.hid (show l.length ≤ 9223372036854775807 by omega)
  rw [hU] at hx
  have HU := Lib.hid hU
  rw [hU] at kb
  clear hU
  subst hne
  have hmo2 : decide (most < (n : Int)) = false := decide_eq_false (by omega)
  have hwr : IntKind.i64.wrap 1 = 1 := by decide
  clear h0 hl hll hn hval hV hsz hmo
  go_enter Try.func28, Try.ntmps28
  go_wp2_with fail
  generalize hW2 : World.alloc _ _ = W2
  have HB2 := Lib.hid (show Below w.heap.size w W2 by rw [← hW2]; exact below_alloc (below_alloc (Below.refl _ _) _) _)
  have hk0 : W2.heap[w.heap.size]? = some (.cells #[.string s, .int .i64 0] 69 (0, 0)) := by rw [← hW2]; exact heap_alloc2_old _ _ _
  have hk1 : W2.heap[w.heap.size + 1]? = some (.cells #[.string ⟨#[]⟩, .int .i64 0] 69 (0, 0)) := by rw [← hW2]; exact heap_alloc2_new _ _ _
  have HK0 := Lib.hid hk0
  have HK1 := Lib.hid hk1
  have HSZ2 := Lib.hid (show W2.heap.size = w.heap.size + 1 + 1 by rw [← hW2]; simp)
  clear hk0 hk1 hW2
  have HBWC := Lib.hid (bytesW_C W2 HBY.out HYM.out)
  rw [HSZ2.out] at HBWC
  have HBWB := Lib.hid (bytesW_below W2 (strOfNums l))
  rw [HU.out] at HBWC HBWB
  (with_reducible refine (mastheadref01_Value.calls 20 _ _ l _ _ HBWC.out (grownCap_ge _ _ _ _) HVAL.out).mono ?_)
  rintro y w3 ⟨rfl, hd⟩
  have hb3 := HBWB.out.trans (Below.mono hd.below HBWB.out.size)
  have HB3 := Lib.hid (HB2.out.trans (Below.mono hb3 HB2.out.size))
  have HK03 := Lib.hid ((hb3.block _ (blk_lt HK0.out)).trans HK0.out)
  have HK13 := Lib.hid ((hb3.block _ (blk_lt HK1.out)).trans HK1.out)
  have k0 : w3.cell? ⟨w.heap.size, 0, none⟩ = some (.string s) := (blk_cell HK03.out 0).trans rfl
  clear hd hb3 kb
  go_wp2_with fail
  go_region_law (first | (go_simp; go_at_call 45; refine (mastheadref06_Var.calls 20 (n : Int) V _ HVAR.out).mono ?_; rintro y w4 ⟨rfl, hb4⟩; replace hb4 := below_of_drew hb4; have HB4 := Lib.hid (HB3.out.trans (Below.mono hb4 HB3.out.size)); have hk4 := (hb4.block _ (blk_lt HK03.out)).trans HK03.out; have HK14 := Lib.hid ((hb4.block _ (blk_lt HK13.out)).trans HK13.out); have k04 : w4.cell? ⟨w.heap.size, 0, none⟩ = some (.string s) := (blk_cell hk4 0).trans rfl; have r0 := blk_cell HK14.out 0; have r1 := blk_cell HK14.out 1; have r2 := blk_frozen HK14.out 0; have r3 := blk_frozen HK14.out 1; simp only [List.getElem?_toArray, List.getElem?_cons_zero, List.getElem?_cons_succ] at r0 r1; clear hb4 hk4))
  all_goals
    have HR9 := Lib.hid (blk_set (blk_set HK14.out 0 (.string (s.extract 1 s.size))) 1 (.int .i64 0))
    have HB9 := Lib.hid ((HB4.out.setCell (p := ⟨w.heap.size + 1, 0, none⟩) (by simp) (.string (s.extract 1 s.size))).setCell (p := ⟨w.heap.size + 1, 1, none⟩) (by simp) (.int .i64 0))
    go_wp2_with fail
    exact bodyPost_ret (results_ct rfl _ _ (w.heap.size + 1) 69 #[.string (s.extract 1 s.size), .int .i64 0] (0, 0) _ rfl HR9.out Try.underlying69 rfl (by kernel_rfl)) rfl ⟨rfl, HB9.out⟩
set_option maxHeartbeats 1000000 in
theorem rcount_short2 (s : ByteArray) (b most : Int) (h0 : 0 < s.size) (hbt : ∀ h : 0 < s.size, ((s[0]'h).toNat : Int) = b) (b253 : (b == 253) = true) (hs : s.size < 3) (w : World) : Calls Try.prog 28 #[.agg #[.string s, .int .i64 0], .int .u64 most] w fun y w' => y = .returned (.tuple #[.agg #[.string s, .int .i64 2], .int .u64 0]) ∧ Below w.heap.size w w' := by
  have f1 : decide (0 < (s.size : Int)) = true := decide_eq_true (by omega)
  have f1' : decide (0 < s.size) = true := decide_eq_true (by omega)
  have f1t := eq_true h0
  have f2 : decide ((s.size : Int) < 3) = true := decide_eq_true (by omega)
  have f2' : decide (s.size < 3) = true := decide_eq_true (by omega)
  clear h0 hs
  go_enter Try.func28, Try.ntmps28
  go_wp2_with fail
  exact bodyPost_ret (results_ct rfl _ _ (w.heap.size + 1) 69 #[.string s, .int .i64 2] (0, 0) _ rfl (heap_alloc2_new w _ _) Try.underlying69 rfl (by kernel_rfl)) rfl ⟨rfl, below_alloc (below_alloc (Below.refl _ _) _) _⟩
set_option maxHeartbeats 4000000 in
set_option maxRecDepth 100000 in
theorem rcount_bad2 (s : ByteArray) (b most : Int) (h0 : 0 < s.size) (hbt : ∀ h : 0 < s.size, ((s[0]'h).toNat : Int) = b) (b253 : (b == 253) = true) (l : List Int) (hl : ∀ x ∈ l, 0 ≤ x ∧ x < 256) (hll : l.length = 2) (n : Nat) (hn : n < 18446744073709551616) (hval : val l = (n : Int)) (hx : s.extract 1 3 = strOfNums l) (hsz : 3 ≤ s.size) (V : ByteArray) (hV : strOfNums (varB n) = V) (U : ByteArray) (hU : s.extract 0 3 = U) (hne : V ≠ U) (w : World) : Calls Try.prog 28 #[.agg #[.string s, .int .i64 0], .int .u64 most] w fun y w' => y = .returned (.tuple #[.agg #[.string s, .int .i64 3], .int .u64 0]) ∧ Below w.heap.size w w' := by
  have f1 : decide (0 < (s.size : Int)) = true := decide_eq_true (by omega)
  have f1' : decide (0 < s.size) = true := decide_eq_true (by omega)
  have f1t := eq_true h0
  have f2 : decide ((s.size : Int) < 3) = false := decide_eq_false (by omega)
  have f2' : decide (s.size < 3) = false := decide_eq_false (by omega)
  have g1 : (3 ≤ s.size) = True := eq_true (by omega)
  have g2 : (3 ≤ (s.size : Int)) = True := eq_true (by omega)
  have g3 : (1 ≤ s.size) = True := eq_true (by omega)
  have kb := fun W => print_bytes (P := Try.prog) 9 26 5 Try.underlying9 Try.underlying26 Try.underlying5 (strOfNums l) W
  simp only [strOfNums_size] at kb
  have HVAL := Lib.hid (value_tells l hl (by omega) 20 (by omega))
  rw [hval] at HVAL
  have HVAR := Lib.hid (rvar_tells n hn 20 (by omega))
  rw [hV] at HVAR
  have HBY := Lib.hid hl
  have HYM := Lib.hid (show l.length ≤ 9223372036854775807 by omega)
  have hcmp3 : (V.toList == U.toList) = false := tolist_ne hne
  have hcmp4 : (V.toList = U.toList) = False := eq_false (fun h => hne (tolist_inj h))
  have hwr : IntKind.i64.wrap 3 = 3 := by decide
  clear h0 hl hll hn hval hV hsz hne
  go_enter Try.func28, Try.ntmps28
  go_wp2_with fail
  generalize hW2 : World.alloc _ _ = W2
  have HB2 := Lib.hid (show Below w.heap.size w W2 by rw [← hW2]; exact below_alloc (below_alloc (Below.refl _ _) _) _)
  have hk0 : W2.heap[w.heap.size]? = some (.cells #[.string s, .int .i64 0] 69 (0, 0)) := by rw [← hW2]; exact heap_alloc2_old _ _ _
  have hk1 : W2.heap[w.heap.size + 1]? = some (.cells #[.string ⟨#[]⟩, .int .i64 0] 69 (0, 0)) := by rw [← hW2]; exact heap_alloc2_new _ _ _
  have HK0 := Lib.hid hk0
  have HK1 := Lib.hid hk1
  have HSZ2 := Lib.hid (show W2.heap.size = w.heap.size + 1 + 1 by rw [← hW2]; simp)
  clear hk0 hk1 hW2
  have HBWC := Lib.hid (bytesW_C W2 HBY.out HYM.out)
  rw [HSZ2.out] at HBWC
  have HBWB := Lib.hid (bytesW_below W2 (strOfNums l))
  (with_reducible refine (mastheadref01_Value.calls 20 _ _ l _ _ HBWC.out (grownCap_ge _ _ _ _) HVAL.out).mono ?_)
  rintro y w3 ⟨rfl, hd⟩
  have hb3 := HBWB.out.trans (Below.mono hd.below HBWB.out.size)
  have HB3 := Lib.hid (HB2.out.trans (Below.mono hb3 HB2.out.size))
  have HK03 := Lib.hid ((hb3.block _ (blk_lt HK0.out)).trans HK0.out)
  have HK13 := Lib.hid ((hb3.block _ (blk_lt HK1.out)).trans HK1.out)
  have k0 : w3.cell? ⟨w.heap.size, 0, none⟩ = some (.string s) := (blk_cell HK03.out 0).trans rfl
  clear hd hb3 kb
  go_wp2_with fail
  go_region_law (first | (go_simp; go_at_call 45; refine (mastheadref06_Var.calls 20 (n : Int) V _ HVAR.out).mono ?_; rintro y w4 ⟨rfl, hb4⟩; replace hb4 := below_of_drew hb4; have HB4 := Lib.hid (HB3.out.trans (Below.mono hb4 HB3.out.size)); have hk4 := (hb4.block _ (blk_lt HK03.out)).trans HK03.out; have HK14 := Lib.hid ((hb4.block _ (blk_lt HK13.out)).trans HK13.out); have k04 : w4.cell? ⟨w.heap.size, 0, none⟩ = some (.string s) := (blk_cell hk4 0).trans rfl; have r0 := blk_cell HK14.out 0; have r1 := blk_cell HK14.out 1; have r2 := blk_frozen HK14.out 0; have r3 := blk_frozen HK14.out 1; simp only [List.getElem?_toArray, List.getElem?_cons_zero, List.getElem?_cons_succ] at r0 r1; clear hb4 hk4))
  all_goals
    have HR9 := Lib.hid (blk_set (blk_set HK14.out 0 (.string s)) 1 (.int .i64 3))
    have HB9 := Lib.hid ((HB4.out.setCell (p := ⟨w.heap.size + 1, 0, none⟩) (by simp) (.string s)).setCell (p := ⟨w.heap.size + 1, 1, none⟩) (by simp) (.int .i64 3))
    go_wp2_with fail
    exact bodyPost_ret (results_ct rfl _ _ (w.heap.size + 1) 69 #[.string s, .int .i64 3] (0, 0) _ rfl HR9.out Try.underlying69 rfl (by kernel_rfl)) rfl ⟨rfl, HB9.out⟩
set_option maxHeartbeats 4000000 in
set_option maxRecDepth 100000 in
theorem rcount_big2 (s : ByteArray) (b most : Int) (h0 : 0 < s.size) (hbt : ∀ h : 0 < s.size, ((s[0]'h).toNat : Int) = b) (b253 : (b == 253) = true) (l : List Int) (hl : ∀ x ∈ l, 0 ≤ x ∧ x < 256) (hll : l.length = 2) (n : Nat) (hn : n < 18446744073709551616) (hval : val l = (n : Int)) (hx : s.extract 1 3 = strOfNums l) (hsz : 3 ≤ s.size) (V : ByteArray) (hV : strOfNums (varB n) = V) (U : ByteArray) (hU : s.extract 0 3 = U) (hne : V = U) (hmo : most < n) (w : World) : Calls Try.prog 28 #[.agg #[.string s, .int .i64 0], .int .u64 most] w fun y w' => y = .returned (.tuple #[.agg #[.string s, .int .i64 4], .int .u64 0]) ∧ Below w.heap.size w w' := by
  have f1 : decide (0 < (s.size : Int)) = true := decide_eq_true (by omega)
  have f1' : decide (0 < s.size) = true := decide_eq_true (by omega)
  have f1t := eq_true h0
  have f2 : decide ((s.size : Int) < 3) = false := decide_eq_false (by omega)
  have f2' : decide (s.size < 3) = false := decide_eq_false (by omega)
  have g1 : (3 ≤ s.size) = True := eq_true (by omega)
  have g2 : (3 ≤ (s.size : Int)) = True := eq_true (by omega)
  have g3 : (1 ≤ s.size) = True := eq_true (by omega)
  have kb := fun W => print_bytes (P := Try.prog) 9 26 5 Try.underlying9 Try.underlying26 Try.underlying5 (strOfNums l) W
  simp only [strOfNums_size] at kb
  have HVAL := Lib.hid (value_tells l hl (by omega) 20 (by omega))
  rw [hval] at HVAL
  have HVAR := Lib.hid (rvar_tells n hn 20 (by omega))
  rw [hV] at HVAR
  have HBY := Lib.hid hl
  have HYM := Lib.hid (show l.length ≤ 9223372036854775807 by omega)
  subst hne
  have hmo2 : decide (most < (n : Int)) = true := decide_eq_true hmo
  have hwr : IntKind.i64.wrap 3 = 3 := by decide
  clear h0 hl hll hn hval hV hsz hmo
  go_enter Try.func28, Try.ntmps28
  go_wp2_with fail
  generalize hW2 : World.alloc _ _ = W2
  have HB2 := Lib.hid (show Below w.heap.size w W2 by rw [← hW2]; exact below_alloc (below_alloc (Below.refl _ _) _) _)
  have hk0 : W2.heap[w.heap.size]? = some (.cells #[.string s, .int .i64 0] 69 (0, 0)) := by rw [← hW2]; exact heap_alloc2_old _ _ _
  have hk1 : W2.heap[w.heap.size + 1]? = some (.cells #[.string ⟨#[]⟩, .int .i64 0] 69 (0, 0)) := by rw [← hW2]; exact heap_alloc2_new _ _ _
  have HK0 := Lib.hid hk0
  have HK1 := Lib.hid hk1
  have HSZ2 := Lib.hid (show W2.heap.size = w.heap.size + 1 + 1 by rw [← hW2]; simp)
  clear hk0 hk1 hW2
  have HBWC := Lib.hid (bytesW_C W2 HBY.out HYM.out)
  rw [HSZ2.out] at HBWC
  have HBWB := Lib.hid (bytesW_below W2 (strOfNums l))
  (with_reducible refine (mastheadref01_Value.calls 20 _ _ l _ _ HBWC.out (grownCap_ge _ _ _ _) HVAL.out).mono ?_)
  rintro y w3 ⟨rfl, hd⟩
  have hb3 := HBWB.out.trans (Below.mono hd.below HBWB.out.size)
  have HB3 := Lib.hid (HB2.out.trans (Below.mono hb3 HB2.out.size))
  have HK03 := Lib.hid ((hb3.block _ (blk_lt HK0.out)).trans HK0.out)
  have HK13 := Lib.hid ((hb3.block _ (blk_lt HK1.out)).trans HK1.out)
  have k0 : w3.cell? ⟨w.heap.size, 0, none⟩ = some (.string s) := (blk_cell HK03.out 0).trans rfl
  clear hd hb3 kb
  go_wp2_with fail
  go_region_law (first | (go_simp; go_at_call 45; refine (mastheadref06_Var.calls 20 (n : Int) V _ HVAR.out).mono ?_; rintro y w4 ⟨rfl, hb4⟩; replace hb4 := below_of_drew hb4; have HB4 := Lib.hid (HB3.out.trans (Below.mono hb4 HB3.out.size)); have hk4 := (hb4.block _ (blk_lt HK03.out)).trans HK03.out; have HK14 := Lib.hid ((hb4.block _ (blk_lt HK13.out)).trans HK13.out); have k04 : w4.cell? ⟨w.heap.size, 0, none⟩ = some (.string s) := (blk_cell hk4 0).trans rfl; have r0 := blk_cell HK14.out 0; have r1 := blk_cell HK14.out 1; have r2 := blk_frozen HK14.out 0; have r3 := blk_frozen HK14.out 1; simp only [List.getElem?_toArray, List.getElem?_cons_zero, List.getElem?_cons_succ] at r0 r1; clear hb4 hk4))
  all_goals
    have HR9 := Lib.hid (blk_set (blk_set HK14.out 0 (.string s)) 1 (.int .i64 4))
    have HB9 := Lib.hid ((HB4.out.setCell (p := ⟨w.heap.size + 1, 0, none⟩) (by simp) (.string s)).setCell (p := ⟨w.heap.size + 1, 1, none⟩) (by simp) (.int .i64 4))
    go_wp2_with fail
    exact bodyPost_ret (results_ct rfl _ _ (w.heap.size + 1) 69 #[.string s, .int .i64 4] (0, 0) _ rfl HR9.out Try.underlying69 rfl (by kernel_rfl)) rfl ⟨rfl, HB9.out⟩
set_option maxHeartbeats 4000000 in
set_option maxRecDepth 100000 in
theorem rcount_ok2 (s : ByteArray) (b most : Int) (h0 : 0 < s.size) (hbt : ∀ h : 0 < s.size, ((s[0]'h).toNat : Int) = b) (b253 : (b == 253) = true) (l : List Int) (hl : ∀ x ∈ l, 0 ≤ x ∧ x < 256) (hll : l.length = 2) (n : Nat) (hn : n < 18446744073709551616) (hval : val l = (n : Int)) (hx : s.extract 1 3 = strOfNums l) (hsz : 3 ≤ s.size) (V : ByteArray) (hV : strOfNums (varB n) = V) (U : ByteArray) (hU : s.extract 0 3 = U) (hne : V = U) (hmo : (n : Int) ≤ most) (w : World) : Calls Try.prog 28 #[.agg #[.string s, .int .i64 0], .int .u64 most] w fun y w' => y = .returned (.tuple #[.agg #[.string (s.extract 3 s.size), .int .i64 0], .int .u64 (n : Int)]) ∧ Below w.heap.size w w' := by
  have f1 : decide (0 < (s.size : Int)) = true := decide_eq_true (by omega)
  have f1' : decide (0 < s.size) = true := decide_eq_true (by omega)
  have f1t := eq_true h0
  have f2 : decide ((s.size : Int) < 3) = false := decide_eq_false (by omega)
  have f2' : decide (s.size < 3) = false := decide_eq_false (by omega)
  have g1 : (3 ≤ s.size) = True := eq_true (by omega)
  have g2 : (3 ≤ (s.size : Int)) = True := eq_true (by omega)
  have g3 : (1 ≤ s.size) = True := eq_true (by omega)
  have kb := fun W => print_bytes (P := Try.prog) 9 26 5 Try.underlying9 Try.underlying26 Try.underlying5 (strOfNums l) W
  simp only [strOfNums_size] at kb
  have HVAL := Lib.hid (value_tells l hl (by omega) 20 (by omega))
  rw [hval] at HVAL
  have HVAR := Lib.hid (rvar_tells n hn 20 (by omega))
  rw [hV] at HVAR
  have HBY := Lib.hid hl
  have HYM := Lib.hid (show l.length ≤ 9223372036854775807 by omega)
  subst hne
  have hmo2 : decide (most < (n : Int)) = false := decide_eq_false (by omega)
  have hwr : IntKind.i64.wrap 3 = 3 := by decide
  clear h0 hl hll hn hval hV hsz hmo
  go_enter Try.func28, Try.ntmps28
  go_wp2_with fail
  generalize hW2 : World.alloc _ _ = W2
  have HB2 := Lib.hid (show Below w.heap.size w W2 by rw [← hW2]; exact below_alloc (below_alloc (Below.refl _ _) _) _)
  have hk0 : W2.heap[w.heap.size]? = some (.cells #[.string s, .int .i64 0] 69 (0, 0)) := by rw [← hW2]; exact heap_alloc2_old _ _ _
  have hk1 : W2.heap[w.heap.size + 1]? = some (.cells #[.string ⟨#[]⟩, .int .i64 0] 69 (0, 0)) := by rw [← hW2]; exact heap_alloc2_new _ _ _
  have HK0 := Lib.hid hk0
  have HK1 := Lib.hid hk1
  have HSZ2 := Lib.hid (show W2.heap.size = w.heap.size + 1 + 1 by rw [← hW2]; simp)
  clear hk0 hk1 hW2
  have HBWC := Lib.hid (bytesW_C W2 HBY.out HYM.out)
  rw [HSZ2.out] at HBWC
  have HBWB := Lib.hid (bytesW_below W2 (strOfNums l))
  (with_reducible refine (mastheadref01_Value.calls 20 _ _ l _ _ HBWC.out (grownCap_ge _ _ _ _) HVAL.out).mono ?_)
  rintro y w3 ⟨rfl, hd⟩
  have hb3 := HBWB.out.trans (Below.mono hd.below HBWB.out.size)
  have HB3 := Lib.hid (HB2.out.trans (Below.mono hb3 HB2.out.size))
  have HK03 := Lib.hid ((hb3.block _ (blk_lt HK0.out)).trans HK0.out)
  have HK13 := Lib.hid ((hb3.block _ (blk_lt HK1.out)).trans HK1.out)
  have k0 : w3.cell? ⟨w.heap.size, 0, none⟩ = some (.string s) := (blk_cell HK03.out 0).trans rfl
  clear hd hb3 kb
  go_wp2_with fail
  go_region_law (first | (go_simp; go_at_call 45; refine (mastheadref06_Var.calls 20 (n : Int) V _ HVAR.out).mono ?_; rintro y w4 ⟨rfl, hb4⟩; replace hb4 := below_of_drew hb4; have HB4 := Lib.hid (HB3.out.trans (Below.mono hb4 HB3.out.size)); have hk4 := (hb4.block _ (blk_lt HK03.out)).trans HK03.out; have HK14 := Lib.hid ((hb4.block _ (blk_lt HK13.out)).trans HK13.out); have k04 : w4.cell? ⟨w.heap.size, 0, none⟩ = some (.string s) := (blk_cell hk4 0).trans rfl; have r0 := blk_cell HK14.out 0; have r1 := blk_cell HK14.out 1; have r2 := blk_frozen HK14.out 0; have r3 := blk_frozen HK14.out 1; simp only [List.getElem?_toArray, List.getElem?_cons_zero, List.getElem?_cons_succ] at r0 r1; clear hb4 hk4))
  all_goals
    have HR9 := Lib.hid (blk_set (blk_set HK14.out 0 (.string (s.extract 3 s.size))) 1 (.int .i64 0))
    have HB9 := Lib.hid ((HB4.out.setCell (p := ⟨w.heap.size + 1, 0, none⟩) (by simp) (.string (s.extract 3 s.size))).setCell (p := ⟨w.heap.size + 1, 1, none⟩) (by simp) (.int .i64 0))
    go_wp2_with fail
    exact bodyPost_ret (results_ct rfl _ _ (w.heap.size + 1) 69 #[.string (s.extract 3 s.size), .int .i64 0] (0, 0) _ rfl HR9.out Try.underlying69 rfl (by kernel_rfl)) rfl ⟨rfl, HB9.out⟩
set_option maxHeartbeats 1000000 in
theorem rcount_short4 (s : ByteArray) (b most : Int) (h0 : 0 < s.size) (hbt : ∀ h : 0 < s.size, ((s[0]'h).toNat : Int) = b) (b253 : (b == 253) = false) (b254 : (b == 254) = true) (hs : s.size < 5) (w : World) : Calls Try.prog 28 #[.agg #[.string s, .int .i64 0], .int .u64 most] w fun y w' => y = .returned (.tuple #[.agg #[.string s, .int .i64 2], .int .u64 0]) ∧ Below w.heap.size w w' := by
  have f1 : decide (0 < (s.size : Int)) = true := decide_eq_true (by omega)
  have f1' : decide (0 < s.size) = true := decide_eq_true (by omega)
  have f1t := eq_true h0
  have f2 : decide ((s.size : Int) < 5) = true := decide_eq_true (by omega)
  have f2' : decide (s.size < 5) = true := decide_eq_true (by omega)
  clear h0 hs
  go_enter Try.func28, Try.ntmps28
  go_wp2_with fail
  exact bodyPost_ret (results_ct rfl _ _ (w.heap.size + 1) 69 #[.string s, .int .i64 2] (0, 0) _ rfl (heap_alloc2_new w _ _) Try.underlying69 rfl (by kernel_rfl)) rfl ⟨rfl, below_alloc (below_alloc (Below.refl _ _) _) _⟩
set_option maxHeartbeats 4000000 in
set_option maxRecDepth 100000 in
theorem rcount_bad4 (s : ByteArray) (b most : Int) (h0 : 0 < s.size) (hbt : ∀ h : 0 < s.size, ((s[0]'h).toNat : Int) = b) (b253 : (b == 253) = false) (b254 : (b == 254) = true) (l : List Int) (hl : ∀ x ∈ l, 0 ≤ x ∧ x < 256) (hll : l.length = 4) (n : Nat) (hn : n < 18446744073709551616) (hval : val l = (n : Int)) (hx : s.extract 1 5 = strOfNums l) (hsz : 5 ≤ s.size) (V : ByteArray) (hV : strOfNums (varB n) = V) (U : ByteArray) (hU : s.extract 0 5 = U) (hne : V ≠ U) (w : World) : Calls Try.prog 28 #[.agg #[.string s, .int .i64 0], .int .u64 most] w fun y w' => y = .returned (.tuple #[.agg #[.string s, .int .i64 3], .int .u64 0]) ∧ Below w.heap.size w w' := by
  have f1 : decide (0 < (s.size : Int)) = true := decide_eq_true (by omega)
  have f1' : decide (0 < s.size) = true := decide_eq_true (by omega)
  have f1t := eq_true h0
  have f2 : decide ((s.size : Int) < 5) = false := decide_eq_false (by omega)
  have f2' : decide (s.size < 5) = false := decide_eq_false (by omega)
  have g1 : (5 ≤ s.size) = True := eq_true (by omega)
  have g2 : (5 ≤ (s.size : Int)) = True := eq_true (by omega)
  have g3 : (1 ≤ s.size) = True := eq_true (by omega)
  have kb := fun W => print_bytes (P := Try.prog) 9 26 5 Try.underlying9 Try.underlying26 Try.underlying5 (strOfNums l) W
  simp only [strOfNums_size] at kb
  have HVAL := Lib.hid (value_tells l hl (by omega) 20 (by omega))
  rw [hval] at HVAL
  have HVAR := Lib.hid (rvar_tells n hn 20 (by omega))
  rw [hV] at HVAR
  have HBY := Lib.hid hl
  have HYM := Lib.hid (show l.length ≤ 9223372036854775807 by omega)
  have hcmp3 : (V.toList == U.toList) = false := tolist_ne hne
  have hcmp4 : (V.toList = U.toList) = False := eq_false (fun h => hne (tolist_inj h))
  have hwr : IntKind.i64.wrap 5 = 5 := by decide
  clear h0 hl hll hn hval hV hsz hne
  go_enter Try.func28, Try.ntmps28
  go_wp2_with fail
  generalize hW2 : World.alloc _ _ = W2
  have HB2 := Lib.hid (show Below w.heap.size w W2 by rw [← hW2]; exact below_alloc (below_alloc (Below.refl _ _) _) _)
  have hk0 : W2.heap[w.heap.size]? = some (.cells #[.string s, .int .i64 0] 69 (0, 0)) := by rw [← hW2]; exact heap_alloc2_old _ _ _
  have hk1 : W2.heap[w.heap.size + 1]? = some (.cells #[.string ⟨#[]⟩, .int .i64 0] 69 (0, 0)) := by rw [← hW2]; exact heap_alloc2_new _ _ _
  have HK0 := Lib.hid hk0
  have HK1 := Lib.hid hk1
  have HSZ2 := Lib.hid (show W2.heap.size = w.heap.size + 1 + 1 by rw [← hW2]; simp)
  clear hk0 hk1 hW2
  have HBWC := Lib.hid (bytesW_C W2 HBY.out HYM.out)
  rw [HSZ2.out] at HBWC
  have HBWB := Lib.hid (bytesW_below W2 (strOfNums l))
  (with_reducible refine (mastheadref01_Value.calls 20 _ _ l _ _ HBWC.out (grownCap_ge _ _ _ _) HVAL.out).mono ?_)
  rintro y w3 ⟨rfl, hd⟩
  have hb3 := HBWB.out.trans (Below.mono hd.below HBWB.out.size)
  have HB3 := Lib.hid (HB2.out.trans (Below.mono hb3 HB2.out.size))
  have HK03 := Lib.hid ((hb3.block _ (blk_lt HK0.out)).trans HK0.out)
  have HK13 := Lib.hid ((hb3.block _ (blk_lt HK1.out)).trans HK1.out)
  have k0 : w3.cell? ⟨w.heap.size, 0, none⟩ = some (.string s) := (blk_cell HK03.out 0).trans rfl
  clear hd hb3 kb
  go_wp2_with fail
  go_region_law (first | (go_simp; go_at_call 45; refine (mastheadref06_Var.calls 20 (n : Int) V _ HVAR.out).mono ?_; rintro y w4 ⟨rfl, hb4⟩; replace hb4 := below_of_drew hb4; have HB4 := Lib.hid (HB3.out.trans (Below.mono hb4 HB3.out.size)); have hk4 := (hb4.block _ (blk_lt HK03.out)).trans HK03.out; have HK14 := Lib.hid ((hb4.block _ (blk_lt HK13.out)).trans HK13.out); have k04 : w4.cell? ⟨w.heap.size, 0, none⟩ = some (.string s) := (blk_cell hk4 0).trans rfl; have r0 := blk_cell HK14.out 0; have r1 := blk_cell HK14.out 1; have r2 := blk_frozen HK14.out 0; have r3 := blk_frozen HK14.out 1; simp only [List.getElem?_toArray, List.getElem?_cons_zero, List.getElem?_cons_succ] at r0 r1; clear hb4 hk4))
  all_goals
    have HR9 := Lib.hid (blk_set (blk_set HK14.out 0 (.string s)) 1 (.int .i64 3))
    have HB9 := Lib.hid ((HB4.out.setCell (p := ⟨w.heap.size + 1, 0, none⟩) (by simp) (.string s)).setCell (p := ⟨w.heap.size + 1, 1, none⟩) (by simp) (.int .i64 3))
    go_wp2_with fail
    exact bodyPost_ret (results_ct rfl _ _ (w.heap.size + 1) 69 #[.string s, .int .i64 3] (0, 0) _ rfl HR9.out Try.underlying69 rfl (by kernel_rfl)) rfl ⟨rfl, HB9.out⟩
set_option maxHeartbeats 4000000 in
set_option maxRecDepth 100000 in
theorem rcount_big4 (s : ByteArray) (b most : Int) (h0 : 0 < s.size) (hbt : ∀ h : 0 < s.size, ((s[0]'h).toNat : Int) = b) (b253 : (b == 253) = false) (b254 : (b == 254) = true) (l : List Int) (hl : ∀ x ∈ l, 0 ≤ x ∧ x < 256) (hll : l.length = 4) (n : Nat) (hn : n < 18446744073709551616) (hval : val l = (n : Int)) (hx : s.extract 1 5 = strOfNums l) (hsz : 5 ≤ s.size) (V : ByteArray) (hV : strOfNums (varB n) = V) (U : ByteArray) (hU : s.extract 0 5 = U) (hne : V = U) (hmo : most < n) (w : World) : Calls Try.prog 28 #[.agg #[.string s, .int .i64 0], .int .u64 most] w fun y w' => y = .returned (.tuple #[.agg #[.string s, .int .i64 4], .int .u64 0]) ∧ Below w.heap.size w w' := by
  have f1 : decide (0 < (s.size : Int)) = true := decide_eq_true (by omega)
  have f1' : decide (0 < s.size) = true := decide_eq_true (by omega)
  have f1t := eq_true h0
  have f2 : decide ((s.size : Int) < 5) = false := decide_eq_false (by omega)
  have f2' : decide (s.size < 5) = false := decide_eq_false (by omega)
  have g1 : (5 ≤ s.size) = True := eq_true (by omega)
  have g2 : (5 ≤ (s.size : Int)) = True := eq_true (by omega)
  have g3 : (1 ≤ s.size) = True := eq_true (by omega)
  have kb := fun W => print_bytes (P := Try.prog) 9 26 5 Try.underlying9 Try.underlying26 Try.underlying5 (strOfNums l) W
  simp only [strOfNums_size] at kb
  have HVAL := Lib.hid (value_tells l hl (by omega) 20 (by omega))
  rw [hval] at HVAL
  have HVAR := Lib.hid (rvar_tells n hn 20 (by omega))
  rw [hV] at HVAR
  have HBY := Lib.hid hl
  have HYM := Lib.hid (show l.length ≤ 9223372036854775807 by omega)
  subst hne
  have hmo2 : decide (most < (n : Int)) = true := decide_eq_true hmo
  have hwr : IntKind.i64.wrap 5 = 5 := by decide
  clear h0 hl hll hn hval hV hsz hmo
  go_enter Try.func28, Try.ntmps28
  go_wp2_with fail
  generalize hW2 : World.alloc _ _ = W2
  have HB2 := Lib.hid (show Below w.heap.size w W2 by rw [← hW2]; exact below_alloc (below_alloc (Below.refl _ _) _) _)
  have hk0 : W2.heap[w.heap.size]? = some (.cells #[.string s, .int .i64 0] 69 (0, 0)) := by rw [← hW2]; exact heap_alloc2_old _ _ _
  have hk1 : W2.heap[w.heap.size + 1]? = some (.cells #[.string ⟨#[]⟩, .int .i64 0] 69 (0, 0)) := by rw [← hW2]; exact heap_alloc2_new _ _ _
  have HK0 := Lib.hid hk0
  have HK1 := Lib.hid hk1
  have HSZ2 := Lib.hid (show W2.heap.size = w.heap.size + 1 + 1 by rw [← hW2]; simp)
  clear hk0 hk1 hW2
  have HBWC := Lib.hid (bytesW_C W2 HBY.out HYM.out)
  rw [HSZ2.out] at HBWC
  have HBWB := Lib.hid (bytesW_below W2 (strOfNums l))
  (with_reducible refine (mastheadref01_Value.calls 20 _ _ l _ _ HBWC.out (grownCap_ge _ _ _ _) HVAL.out).mono ?_)
  rintro y w3 ⟨rfl, hd⟩
  have hb3 := HBWB.out.trans (Below.mono hd.below HBWB.out.size)
  have HB3 := Lib.hid (HB2.out.trans (Below.mono hb3 HB2.out.size))
  have HK03 := Lib.hid ((hb3.block _ (blk_lt HK0.out)).trans HK0.out)
  have HK13 := Lib.hid ((hb3.block _ (blk_lt HK1.out)).trans HK1.out)
  have k0 : w3.cell? ⟨w.heap.size, 0, none⟩ = some (.string s) := (blk_cell HK03.out 0).trans rfl
  clear hd hb3 kb
  go_wp2_with fail
  go_region_law (first | (go_simp; go_at_call 45; refine (mastheadref06_Var.calls 20 (n : Int) V _ HVAR.out).mono ?_; rintro y w4 ⟨rfl, hb4⟩; replace hb4 := below_of_drew hb4; have HB4 := Lib.hid (HB3.out.trans (Below.mono hb4 HB3.out.size)); have hk4 := (hb4.block _ (blk_lt HK03.out)).trans HK03.out; have HK14 := Lib.hid ((hb4.block _ (blk_lt HK13.out)).trans HK13.out); have k04 : w4.cell? ⟨w.heap.size, 0, none⟩ = some (.string s) := (blk_cell hk4 0).trans rfl; have r0 := blk_cell HK14.out 0; have r1 := blk_cell HK14.out 1; have r2 := blk_frozen HK14.out 0; have r3 := blk_frozen HK14.out 1; simp only [List.getElem?_toArray, List.getElem?_cons_zero, List.getElem?_cons_succ] at r0 r1; clear hb4 hk4))
  all_goals
    have HR9 := Lib.hid (blk_set (blk_set HK14.out 0 (.string s)) 1 (.int .i64 4))
    have HB9 := Lib.hid ((HB4.out.setCell (p := ⟨w.heap.size + 1, 0, none⟩) (by simp) (.string s)).setCell (p := ⟨w.heap.size + 1, 1, none⟩) (by simp) (.int .i64 4))
    go_wp2_with fail
    exact bodyPost_ret (results_ct rfl _ _ (w.heap.size + 1) 69 #[.string s, .int .i64 4] (0, 0) _ rfl HR9.out Try.underlying69 rfl (by kernel_rfl)) rfl ⟨rfl, HB9.out⟩
set_option maxHeartbeats 4000000 in
set_option maxRecDepth 100000 in
theorem rcount_ok4 (s : ByteArray) (b most : Int) (h0 : 0 < s.size) (hbt : ∀ h : 0 < s.size, ((s[0]'h).toNat : Int) = b) (b253 : (b == 253) = false) (b254 : (b == 254) = true) (l : List Int) (hl : ∀ x ∈ l, 0 ≤ x ∧ x < 256) (hll : l.length = 4) (n : Nat) (hn : n < 18446744073709551616) (hval : val l = (n : Int)) (hx : s.extract 1 5 = strOfNums l) (hsz : 5 ≤ s.size) (V : ByteArray) (hV : strOfNums (varB n) = V) (U : ByteArray) (hU : s.extract 0 5 = U) (hne : V = U) (hmo : (n : Int) ≤ most) (w : World) : Calls Try.prog 28 #[.agg #[.string s, .int .i64 0], .int .u64 most] w fun y w' => y = .returned (.tuple #[.agg #[.string (s.extract 5 s.size), .int .i64 0], .int .u64 (n : Int)]) ∧ Below w.heap.size w w' := by
  have f1 : decide (0 < (s.size : Int)) = true := decide_eq_true (by omega)
  have f1' : decide (0 < s.size) = true := decide_eq_true (by omega)
  have f1t := eq_true h0
  have f2 : decide ((s.size : Int) < 5) = false := decide_eq_false (by omega)
  have f2' : decide (s.size < 5) = false := decide_eq_false (by omega)
  have g1 : (5 ≤ s.size) = True := eq_true (by omega)
  have g2 : (5 ≤ (s.size : Int)) = True := eq_true (by omega)
  have g3 : (1 ≤ s.size) = True := eq_true (by omega)
  have kb := fun W => print_bytes (P := Try.prog) 9 26 5 Try.underlying9 Try.underlying26 Try.underlying5 (strOfNums l) W
  simp only [strOfNums_size] at kb
  have HVAL := Lib.hid (value_tells l hl (by omega) 20 (by omega))
  rw [hval] at HVAL
  have HVAR := Lib.hid (rvar_tells n hn 20 (by omega))
  rw [hV] at HVAR
  have HBY := Lib.hid hl
  have HYM := Lib.hid (show l.length ≤ 9223372036854775807 by omega)
  subst hne
  have hmo2 : decide (most < (n : Int)) = false := decide_eq_false (by omega)
  have hwr : IntKind.i64.wrap 5 = 5 := by decide
  clear h0 hl hll hn hval hV hsz hmo
  go_enter Try.func28, Try.ntmps28
  go_wp2_with fail
  generalize hW2 : World.alloc _ _ = W2
  have HB2 := Lib.hid (show Below w.heap.size w W2 by rw [← hW2]; exact below_alloc (below_alloc (Below.refl _ _) _) _)
  have hk0 : W2.heap[w.heap.size]? = some (.cells #[.string s, .int .i64 0] 69 (0, 0)) := by rw [← hW2]; exact heap_alloc2_old _ _ _
  have hk1 : W2.heap[w.heap.size + 1]? = some (.cells #[.string ⟨#[]⟩, .int .i64 0] 69 (0, 0)) := by rw [← hW2]; exact heap_alloc2_new _ _ _
  have HK0 := Lib.hid hk0
  have HK1 := Lib.hid hk1
  have HSZ2 := Lib.hid (show W2.heap.size = w.heap.size + 1 + 1 by rw [← hW2]; simp)
  clear hk0 hk1 hW2
  have HBWC := Lib.hid (bytesW_C W2 HBY.out HYM.out)
  rw [HSZ2.out] at HBWC
  have HBWB := Lib.hid (bytesW_below W2 (strOfNums l))
  (with_reducible refine (mastheadref01_Value.calls 20 _ _ l _ _ HBWC.out (grownCap_ge _ _ _ _) HVAL.out).mono ?_)
  rintro y w3 ⟨rfl, hd⟩
  have hb3 := HBWB.out.trans (Below.mono hd.below HBWB.out.size)
  have HB3 := Lib.hid (HB2.out.trans (Below.mono hb3 HB2.out.size))
  have HK03 := Lib.hid ((hb3.block _ (blk_lt HK0.out)).trans HK0.out)
  have HK13 := Lib.hid ((hb3.block _ (blk_lt HK1.out)).trans HK1.out)
  have k0 : w3.cell? ⟨w.heap.size, 0, none⟩ = some (.string s) := (blk_cell HK03.out 0).trans rfl
  clear hd hb3 kb
  go_wp2_with fail
  go_region_law (first | (go_simp; go_at_call 45; refine (mastheadref06_Var.calls 20 (n : Int) V _ HVAR.out).mono ?_; rintro y w4 ⟨rfl, hb4⟩; replace hb4 := below_of_drew hb4; have HB4 := Lib.hid (HB3.out.trans (Below.mono hb4 HB3.out.size)); have hk4 := (hb4.block _ (blk_lt HK03.out)).trans HK03.out; have HK14 := Lib.hid ((hb4.block _ (blk_lt HK13.out)).trans HK13.out); have k04 : w4.cell? ⟨w.heap.size, 0, none⟩ = some (.string s) := (blk_cell hk4 0).trans rfl; have r0 := blk_cell HK14.out 0; have r1 := blk_cell HK14.out 1; have r2 := blk_frozen HK14.out 0; have r3 := blk_frozen HK14.out 1; simp only [List.getElem?_toArray, List.getElem?_cons_zero, List.getElem?_cons_succ] at r0 r1; clear hb4 hk4))
  all_goals
    have HR9 := Lib.hid (blk_set (blk_set HK14.out 0 (.string (s.extract 5 s.size))) 1 (.int .i64 0))
    have HB9 := Lib.hid ((HB4.out.setCell (p := ⟨w.heap.size + 1, 0, none⟩) (by simp) (.string (s.extract 5 s.size))).setCell (p := ⟨w.heap.size + 1, 1, none⟩) (by simp) (.int .i64 0))
    go_wp2_with fail
    exact bodyPost_ret (results_ct rfl _ _ (w.heap.size + 1) 69 #[.string (s.extract 5 s.size), .int .i64 0] (0, 0) _ rfl HR9.out Try.underlying69 rfl (by kernel_rfl)) rfl ⟨rfl, HB9.out⟩
set_option maxHeartbeats 1000000 in
theorem rcount_short8 (s : ByteArray) (b most : Int) (h0 : 0 < s.size) (hbt : ∀ h : 0 < s.size, ((s[0]'h).toNat : Int) = b) (b253 : (b == 253) = false) (b254 : (b == 254) = false) (b255 : (b == 255) = true) (hs : s.size < 9) (w : World) : Calls Try.prog 28 #[.agg #[.string s, .int .i64 0], .int .u64 most] w fun y w' => y = .returned (.tuple #[.agg #[.string s, .int .i64 2], .int .u64 0]) ∧ Below w.heap.size w w' := by
  have f1 : decide (0 < (s.size : Int)) = true := decide_eq_true (by omega)
  have f1' : decide (0 < s.size) = true := decide_eq_true (by omega)
  have f1t := eq_true h0
  have f2 : decide ((s.size : Int) < 9) = true := decide_eq_true (by omega)
  have f2' : decide (s.size < 9) = true := decide_eq_true (by omega)
  clear h0 hs
  go_enter Try.func28, Try.ntmps28
  go_wp2_with fail
  exact bodyPost_ret (results_ct rfl _ _ (w.heap.size + 1) 69 #[.string s, .int .i64 2] (0, 0) _ rfl (heap_alloc2_new w _ _) Try.underlying69 rfl (by kernel_rfl)) rfl ⟨rfl, below_alloc (below_alloc (Below.refl _ _) _) _⟩
set_option maxHeartbeats 4000000 in
set_option maxRecDepth 100000 in
theorem rcount_bad8 (s : ByteArray) (b most : Int) (h0 : 0 < s.size) (hbt : ∀ h : 0 < s.size, ((s[0]'h).toNat : Int) = b) (b253 : (b == 253) = false) (b254 : (b == 254) = false) (b255 : (b == 255) = true) (l : List Int) (hl : ∀ x ∈ l, 0 ≤ x ∧ x < 256) (hll : l.length = 8) (n : Nat) (hn : n < 18446744073709551616) (hval : val l = (n : Int)) (hx : s.extract 1 9 = strOfNums l) (hsz : 9 ≤ s.size) (V : ByteArray) (hV : strOfNums (varB n) = V) (U : ByteArray) (hU : s.extract 0 9 = U) (hne : V ≠ U) (w : World) : Calls Try.prog 28 #[.agg #[.string s, .int .i64 0], .int .u64 most] w fun y w' => y = .returned (.tuple #[.agg #[.string s, .int .i64 3], .int .u64 0]) ∧ Below w.heap.size w w' := by
  have f1 : decide (0 < (s.size : Int)) = true := decide_eq_true (by omega)
  have f1' : decide (0 < s.size) = true := decide_eq_true (by omega)
  have f1t := eq_true h0
  have f2 : decide ((s.size : Int) < 9) = false := decide_eq_false (by omega)
  have f2' : decide (s.size < 9) = false := decide_eq_false (by omega)
  have g1 : (9 ≤ s.size) = True := eq_true (by omega)
  have g2 : (9 ≤ (s.size : Int)) = True := eq_true (by omega)
  have g3 : (1 ≤ s.size) = True := eq_true (by omega)
  have kb := fun W => print_bytes (P := Try.prog) 9 26 5 Try.underlying9 Try.underlying26 Try.underlying5 (strOfNums l) W
  simp only [strOfNums_size] at kb
  have HVAL := Lib.hid (value_tells l hl (by omega) 20 (by omega))
  rw [hval] at HVAL
  have HVAR := Lib.hid (rvar_tells n hn 20 (by omega))
  rw [hV] at HVAR
  have HBY := Lib.hid hl
  have HYM := Lib.hid (show l.length ≤ 9223372036854775807 by omega)
  have hcmp3 : (V.toList == U.toList) = false := tolist_ne hne
  have hcmp4 : (V.toList = U.toList) = False := eq_false (fun h => hne (tolist_inj h))
  have hwr : IntKind.i64.wrap 9 = 9 := by decide
  clear h0 hl hll hn hval hV hsz hne
  go_enter Try.func28, Try.ntmps28
  go_wp2_with fail
  generalize hW2 : World.alloc _ _ = W2
  have HB2 := Lib.hid (show Below w.heap.size w W2 by rw [← hW2]; exact below_alloc (below_alloc (Below.refl _ _) _) _)
  have hk0 : W2.heap[w.heap.size]? = some (.cells #[.string s, .int .i64 0] 69 (0, 0)) := by rw [← hW2]; exact heap_alloc2_old _ _ _
  have hk1 : W2.heap[w.heap.size + 1]? = some (.cells #[.string ⟨#[]⟩, .int .i64 0] 69 (0, 0)) := by rw [← hW2]; exact heap_alloc2_new _ _ _
  have HK0 := Lib.hid hk0
  have HK1 := Lib.hid hk1
  have HSZ2 := Lib.hid (show W2.heap.size = w.heap.size + 1 + 1 by rw [← hW2]; simp)
  clear hk0 hk1 hW2
  have HBWC := Lib.hid (bytesW_C W2 HBY.out HYM.out)
  rw [HSZ2.out] at HBWC
  have HBWB := Lib.hid (bytesW_below W2 (strOfNums l))
  (with_reducible refine (mastheadref01_Value.calls 20 _ _ l _ _ HBWC.out (grownCap_ge _ _ _ _) HVAL.out).mono ?_)
  rintro y w3 ⟨rfl, hd⟩
  have hb3 := HBWB.out.trans (Below.mono hd.below HBWB.out.size)
  have HB3 := Lib.hid (HB2.out.trans (Below.mono hb3 HB2.out.size))
  have HK03 := Lib.hid ((hb3.block _ (blk_lt HK0.out)).trans HK0.out)
  have HK13 := Lib.hid ((hb3.block _ (blk_lt HK1.out)).trans HK1.out)
  have k0 : w3.cell? ⟨w.heap.size, 0, none⟩ = some (.string s) := (blk_cell HK03.out 0).trans rfl
  clear hd hb3 kb
  go_wp2_with fail
  go_region_law (first | (go_simp; go_at_call 45; refine (mastheadref06_Var.calls 20 (n : Int) V _ HVAR.out).mono ?_; rintro y w4 ⟨rfl, hb4⟩; replace hb4 := below_of_drew hb4; have HB4 := Lib.hid (HB3.out.trans (Below.mono hb4 HB3.out.size)); have hk4 := (hb4.block _ (blk_lt HK03.out)).trans HK03.out; have HK14 := Lib.hid ((hb4.block _ (blk_lt HK13.out)).trans HK13.out); have k04 : w4.cell? ⟨w.heap.size, 0, none⟩ = some (.string s) := (blk_cell hk4 0).trans rfl; have r0 := blk_cell HK14.out 0; have r1 := blk_cell HK14.out 1; have r2 := blk_frozen HK14.out 0; have r3 := blk_frozen HK14.out 1; simp only [List.getElem?_toArray, List.getElem?_cons_zero, List.getElem?_cons_succ] at r0 r1; clear hb4 hk4))
  all_goals
    have HR9 := Lib.hid (blk_set (blk_set HK14.out 0 (.string s)) 1 (.int .i64 3))
    have HB9 := Lib.hid ((HB4.out.setCell (p := ⟨w.heap.size + 1, 0, none⟩) (by simp) (.string s)).setCell (p := ⟨w.heap.size + 1, 1, none⟩) (by simp) (.int .i64 3))
    go_wp2_with fail
    exact bodyPost_ret (results_ct rfl _ _ (w.heap.size + 1) 69 #[.string s, .int .i64 3] (0, 0) _ rfl HR9.out Try.underlying69 rfl (by kernel_rfl)) rfl ⟨rfl, HB9.out⟩
set_option maxHeartbeats 4000000 in
set_option maxRecDepth 100000 in
theorem rcount_big8 (s : ByteArray) (b most : Int) (h0 : 0 < s.size) (hbt : ∀ h : 0 < s.size, ((s[0]'h).toNat : Int) = b) (b253 : (b == 253) = false) (b254 : (b == 254) = false) (b255 : (b == 255) = true) (l : List Int) (hl : ∀ x ∈ l, 0 ≤ x ∧ x < 256) (hll : l.length = 8) (n : Nat) (hn : n < 18446744073709551616) (hval : val l = (n : Int)) (hx : s.extract 1 9 = strOfNums l) (hsz : 9 ≤ s.size) (V : ByteArray) (hV : strOfNums (varB n) = V) (U : ByteArray) (hU : s.extract 0 9 = U) (hne : V = U) (hmo : most < n) (w : World) : Calls Try.prog 28 #[.agg #[.string s, .int .i64 0], .int .u64 most] w fun y w' => y = .returned (.tuple #[.agg #[.string s, .int .i64 4], .int .u64 0]) ∧ Below w.heap.size w w' := by
  have f1 : decide (0 < (s.size : Int)) = true := decide_eq_true (by omega)
  have f1' : decide (0 < s.size) = true := decide_eq_true (by omega)
  have f1t := eq_true h0
  have f2 : decide ((s.size : Int) < 9) = false := decide_eq_false (by omega)
  have f2' : decide (s.size < 9) = false := decide_eq_false (by omega)
  have g1 : (9 ≤ s.size) = True := eq_true (by omega)
  have g2 : (9 ≤ (s.size : Int)) = True := eq_true (by omega)
  have g3 : (1 ≤ s.size) = True := eq_true (by omega)
  have kb := fun W => print_bytes (P := Try.prog) 9 26 5 Try.underlying9 Try.underlying26 Try.underlying5 (strOfNums l) W
  simp only [strOfNums_size] at kb
  have HVAL := Lib.hid (value_tells l hl (by omega) 20 (by omega))
  rw [hval] at HVAL
  have HVAR := Lib.hid (rvar_tells n hn 20 (by omega))
  rw [hV] at HVAR
  have HBY := Lib.hid hl
  have HYM := Lib.hid (show l.length ≤ 9223372036854775807 by omega)
  subst hne
  have hmo2 : decide (most < (n : Int)) = true := decide_eq_true hmo
  have hwr : IntKind.i64.wrap 9 = 9 := by decide
  clear h0 hl hll hn hval hV hsz hmo
  go_enter Try.func28, Try.ntmps28
  go_wp2_with fail
  generalize hW2 : World.alloc _ _ = W2
  have HB2 := Lib.hid (show Below w.heap.size w W2 by rw [← hW2]; exact below_alloc (below_alloc (Below.refl _ _) _) _)
  have hk0 : W2.heap[w.heap.size]? = some (.cells #[.string s, .int .i64 0] 69 (0, 0)) := by rw [← hW2]; exact heap_alloc2_old _ _ _
  have hk1 : W2.heap[w.heap.size + 1]? = some (.cells #[.string ⟨#[]⟩, .int .i64 0] 69 (0, 0)) := by rw [← hW2]; exact heap_alloc2_new _ _ _
  have HK0 := Lib.hid hk0
  have HK1 := Lib.hid hk1
  have HSZ2 := Lib.hid (show W2.heap.size = w.heap.size + 1 + 1 by rw [← hW2]; simp)
  clear hk0 hk1 hW2
  have HBWC := Lib.hid (bytesW_C W2 HBY.out HYM.out)
  rw [HSZ2.out] at HBWC
  have HBWB := Lib.hid (bytesW_below W2 (strOfNums l))
  (with_reducible refine (mastheadref01_Value.calls 20 _ _ l _ _ HBWC.out (grownCap_ge _ _ _ _) HVAL.out).mono ?_)
  rintro y w3 ⟨rfl, hd⟩
  have hb3 := HBWB.out.trans (Below.mono hd.below HBWB.out.size)
  have HB3 := Lib.hid (HB2.out.trans (Below.mono hb3 HB2.out.size))
  have HK03 := Lib.hid ((hb3.block _ (blk_lt HK0.out)).trans HK0.out)
  have HK13 := Lib.hid ((hb3.block _ (blk_lt HK1.out)).trans HK1.out)
  have k0 : w3.cell? ⟨w.heap.size, 0, none⟩ = some (.string s) := (blk_cell HK03.out 0).trans rfl
  clear hd hb3 kb
  go_wp2_with fail
  go_region_law (first | (go_simp; go_at_call 45; refine (mastheadref06_Var.calls 20 (n : Int) V _ HVAR.out).mono ?_; rintro y w4 ⟨rfl, hb4⟩; replace hb4 := below_of_drew hb4; have HB4 := Lib.hid (HB3.out.trans (Below.mono hb4 HB3.out.size)); have hk4 := (hb4.block _ (blk_lt HK03.out)).trans HK03.out; have HK14 := Lib.hid ((hb4.block _ (blk_lt HK13.out)).trans HK13.out); have k04 : w4.cell? ⟨w.heap.size, 0, none⟩ = some (.string s) := (blk_cell hk4 0).trans rfl; have r0 := blk_cell HK14.out 0; have r1 := blk_cell HK14.out 1; have r2 := blk_frozen HK14.out 0; have r3 := blk_frozen HK14.out 1; simp only [List.getElem?_toArray, List.getElem?_cons_zero, List.getElem?_cons_succ] at r0 r1; clear hb4 hk4))
  all_goals
    have HR9 := Lib.hid (blk_set (blk_set HK14.out 0 (.string s)) 1 (.int .i64 4))
    have HB9 := Lib.hid ((HB4.out.setCell (p := ⟨w.heap.size + 1, 0, none⟩) (by simp) (.string s)).setCell (p := ⟨w.heap.size + 1, 1, none⟩) (by simp) (.int .i64 4))
    go_wp2_with fail
    exact bodyPost_ret (results_ct rfl _ _ (w.heap.size + 1) 69 #[.string s, .int .i64 4] (0, 0) _ rfl HR9.out Try.underlying69 rfl (by kernel_rfl)) rfl ⟨rfl, HB9.out⟩
set_option maxHeartbeats 4000000 in
set_option maxRecDepth 100000 in
theorem rcount_ok8 (s : ByteArray) (b most : Int) (h0 : 0 < s.size) (hbt : ∀ h : 0 < s.size, ((s[0]'h).toNat : Int) = b) (b253 : (b == 253) = false) (b254 : (b == 254) = false) (b255 : (b == 255) = true) (l : List Int) (hl : ∀ x ∈ l, 0 ≤ x ∧ x < 256) (hll : l.length = 8) (n : Nat) (hn : n < 18446744073709551616) (hval : val l = (n : Int)) (hx : s.extract 1 9 = strOfNums l) (hsz : 9 ≤ s.size) (V : ByteArray) (hV : strOfNums (varB n) = V) (U : ByteArray) (hU : s.extract 0 9 = U) (hne : V = U) (hmo : (n : Int) ≤ most) (w : World) : Calls Try.prog 28 #[.agg #[.string s, .int .i64 0], .int .u64 most] w fun y w' => y = .returned (.tuple #[.agg #[.string (s.extract 9 s.size), .int .i64 0], .int .u64 (n : Int)]) ∧ Below w.heap.size w w' := by
  have f1 : decide (0 < (s.size : Int)) = true := decide_eq_true (by omega)
  have f1' : decide (0 < s.size) = true := decide_eq_true (by omega)
  have f1t := eq_true h0
  have f2 : decide ((s.size : Int) < 9) = false := decide_eq_false (by omega)
  have f2' : decide (s.size < 9) = false := decide_eq_false (by omega)
  have g1 : (9 ≤ s.size) = True := eq_true (by omega)
  have g2 : (9 ≤ (s.size : Int)) = True := eq_true (by omega)
  have g3 : (1 ≤ s.size) = True := eq_true (by omega)
  have kb := fun W => print_bytes (P := Try.prog) 9 26 5 Try.underlying9 Try.underlying26 Try.underlying5 (strOfNums l) W
  simp only [strOfNums_size] at kb
  have HVAL := Lib.hid (value_tells l hl (by omega) 20 (by omega))
  rw [hval] at HVAL
  have HVAR := Lib.hid (rvar_tells n hn 20 (by omega))
  rw [hV] at HVAR
  have HBY := Lib.hid hl
  have HYM := Lib.hid (show l.length ≤ 9223372036854775807 by omega)
  subst hne
  have hmo2 : decide (most < (n : Int)) = false := decide_eq_false (by omega)
  have hwr : IntKind.i64.wrap 9 = 9 := by decide
  clear h0 hl hll hn hval hV hsz hmo
  go_enter Try.func28, Try.ntmps28
  go_wp2_with fail
  generalize hW2 : World.alloc _ _ = W2
  have HB2 := Lib.hid (show Below w.heap.size w W2 by rw [← hW2]; exact below_alloc (below_alloc (Below.refl _ _) _) _)
  have hk0 : W2.heap[w.heap.size]? = some (.cells #[.string s, .int .i64 0] 69 (0, 0)) := by rw [← hW2]; exact heap_alloc2_old _ _ _
  have hk1 : W2.heap[w.heap.size + 1]? = some (.cells #[.string ⟨#[]⟩, .int .i64 0] 69 (0, 0)) := by rw [← hW2]; exact heap_alloc2_new _ _ _
  have HK0 := Lib.hid hk0
  have HK1 := Lib.hid hk1
  have HSZ2 := Lib.hid (show W2.heap.size = w.heap.size + 1 + 1 by rw [← hW2]; simp)
  clear hk0 hk1 hW2
  have HBWC := Lib.hid (bytesW_C W2 HBY.out HYM.out)
  rw [HSZ2.out] at HBWC
  have HBWB := Lib.hid (bytesW_below W2 (strOfNums l))
  (with_reducible refine (mastheadref01_Value.calls 20 _ _ l _ _ HBWC.out (grownCap_ge _ _ _ _) HVAL.out).mono ?_)
  rintro y w3 ⟨rfl, hd⟩
  have hb3 := HBWB.out.trans (Below.mono hd.below HBWB.out.size)
  have HB3 := Lib.hid (HB2.out.trans (Below.mono hb3 HB2.out.size))
  have HK03 := Lib.hid ((hb3.block _ (blk_lt HK0.out)).trans HK0.out)
  have HK13 := Lib.hid ((hb3.block _ (blk_lt HK1.out)).trans HK1.out)
  have k0 : w3.cell? ⟨w.heap.size, 0, none⟩ = some (.string s) := (blk_cell HK03.out 0).trans rfl
  clear hd hb3 kb
  go_wp2_with fail
  go_region_law (first | (go_simp; go_at_call 45; refine (mastheadref06_Var.calls 20 (n : Int) V _ HVAR.out).mono ?_; rintro y w4 ⟨rfl, hb4⟩; replace hb4 := below_of_drew hb4; have HB4 := Lib.hid (HB3.out.trans (Below.mono hb4 HB3.out.size)); have hk4 := (hb4.block _ (blk_lt HK03.out)).trans HK03.out; have HK14 := Lib.hid ((hb4.block _ (blk_lt HK13.out)).trans HK13.out); have k04 : w4.cell? ⟨w.heap.size, 0, none⟩ = some (.string s) := (blk_cell hk4 0).trans rfl; have r0 := blk_cell HK14.out 0; have r1 := blk_cell HK14.out 1; have r2 := blk_frozen HK14.out 0; have r3 := blk_frozen HK14.out 1; simp only [List.getElem?_toArray, List.getElem?_cons_zero, List.getElem?_cons_succ] at r0 r1; clear hb4 hk4))
  all_goals
    have HR9 := Lib.hid (blk_set (blk_set HK14.out 0 (.string (s.extract 9 s.size))) 1 (.int .i64 0))
    have HB9 := Lib.hid ((HB4.out.setCell (p := ⟨w.heap.size + 1, 0, none⟩) (by simp) (.string (s.extract 9 s.size))).setCell (p := ⟨w.heap.size + 1, 1, none⟩) (by simp) (.int .i64 0))
    go_wp2_with fail
    exact bodyPost_ret (results_ct rfl _ _ (w.heap.size + 1) 69 #[.string (s.extract 9 s.size), .int .i64 0] (0, 0) _ rfl HR9.out Try.underlying69 rfl (by kernel_rfl)) rfl ⟨rfl, HB9.out⟩
end Go.Proofs.Ytpjkhecefppamaa.Hand
