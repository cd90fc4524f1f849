/- The document's Words, walked. -/
import Derived.Test.YtpjkhecefppamaaProg
import Derived.Below
import Derived.Deep.Draws
import Derived.Deep.AppendLies
import Derived.Maps.AppendAt
import Derived.OwnWalk
import Derived.Laws.BytesArg
import Derived.Laws.MakeOwn
import Derived.Laws.OwnMore
import Derived.Deep.OwnRows
import Derived.Tactics
import Derived.Lib.ConvBytes
import Derived.Laws.Slices
import Derived.WalkKit
import Derived.KernelRfl
import Derived.RowKit3
import Derived.Deep.LoopGhost
import Derived.Deep.QuietTactic
import Derived.BigQuiet
import Derived.WideLaws
import Derived.Deep.DeepCutAuto
import Derived.Deep.CutBlock
import Derived.Deep.RegionHeld3
import Derived.Laws.Rows
import Derived.Lib.AppendStr
import Derived.ArgAppend
import Derived.Laws.IdiomCopy
import Derived.OrdersHeld
import Derived.Laws.BitsLemmas
import Derived.RowKit
import Derived.StillTailTactics
import Derived.Test.YtpjkhecefppamaaWWords
import Derived.Test.YtpjkhecefppamaaWLast
import Derived.Test.YtpjkhecefppamaaWMore
import Derived.Lib.Hide
import Derived.Outline
import Derived.Test.YtpjkhecefppamaaRefCount2
namespace Go.Proofs.Ytpjkhecefppamaa.Hand
open Go Go.RowKit Go.Proofs.Ytpjkhecefppamaa.Plain Go.Proofs.Ytpjkhecefppamaa.PAll Go.Proofs.YtpjkhecefppamaaW.PrintWords Go.Proofs.YtpjkhecefppamaaW.PrintLast Go.Proofs.YtpjkhecefppamaaW.PrintMore
set_option linter.unusedVariables false
set_option linter.unusedSimpArgs false
theorem takeR_drop (bs : List Int) (p : Nat) (hp : p ≤ bs.length) (e n : Int) : takeR bs p e n = ((takeR (bs.drop p) 0 e n).1, p + (takeR (bs.drop p) 0 e n).2.1, (takeR (bs.drop p) 0 e n).2.2) := by
  unfold takeR
  rw [List.length_drop]
  by_cases c1 : e ≠ 0
  · rw [if_pos c1, if_pos c1]; rfl
  · rw [if_neg c1, if_neg c1]
    by_cases c2 : (bs.length : Int) - p < n
    · rw [if_pos c2, if_pos (by omega)]; rfl
    · rw [if_neg c2, if_neg (by omega)]
      simp
set_option maxHeartbeats 4000000 in
set_option maxRecDepth 100000 in
theorem rwords_ok1 (s s1 s2 t2 : ByteArray) (e a n x1 x2 : Int) (w : World) (ha : a < 0) (hm : 0 ≤ (0 : Int) ∧ (0 : Int) ≤ 9223372036854775807) (hn : 0 ≤ n ∧ n ≤ 9223372036854775807)
    (HCNT : Hid (∀ w : World, Calls Try.prog 28 #[.agg #[.string s, .int .i64 e], .int .u64 0] w fun x w' => x = .returned (.tuple #[.agg #[.string s1, .int .i64 x1], .int .u64 n]) ∧ Below w.heap.size w w'))
    (HTK : Hid (∀ w : World, Calls Try.prog 42 #[.agg #[.string s1, .int .i64 x1], .int .i64 n] w fun x w' => x = .returned (.tuple #[.agg #[.string s2, .int .i64 x2], .string t2]) ∧ Below w.heap.size w w')) (hx : x2 = 0) :
    Calls Try.prog 29 #[.agg #[.string s, .int .i64 e], .int .i64 a] w fun x w' => x = .returned (.tuple #[.agg #[.string s2, .int .i64 0], .string t2]) ∧ Below w.heap.size w w' := by
  have f1 : decide (a < 0) = true := decide_eq_true ha
  have hw2 : IntKind.i64.wrap n = n := IntWalk.i64_in _ (by omega)
  subst hx
  clear ha hm hn
  go_enter Try.func29, Try.ntmps29
  go_wp2_with fail
  generalize hW2 : World.alloc _ _ = W2
  have HB2 := Lib.hid (show Below w.heap.size w W2 by rw [← hW2]; exact below_alloc (below_alloc (Below.refl _ _) _) _)
  have hk0 : W2.heap[w.heap.size]? = some (.cells #[.string s, .int .i64 e] 69 (0, 0)) := by rw [← hW2]; exact heap_alloc2_old _ _ _
  have hk1 : W2.heap[w.heap.size + 1]? = some (.cells #[.string ⟨#[]⟩, .int .i64 0] 69 (0, 0)) := by rw [← hW2]; exact heap_alloc2_new _ _ _
  have HK0 := Lib.hid hk0
  have HK1 := Lib.hid hk1
  clear hk0 hk1 hW2
  refine (HCNT.out _).mono ?_
  rintro y w3 ⟨rfl, hb3⟩
  have HB3 := Lib.hid (HB2.out.trans (Below.mono hb3 HB2.out.size))
  have HK03 := Lib.hid ((hb3.block _ (blk_lt HK0.out)).trans HK0.out)
  have HK13 := Lib.hid ((hb3.block _ (blk_lt HK1.out)).trans HK1.out)
  clear hb3
  go_wp2_with fail
  refine (HTK.out _).mono ?_
  rintro y w4 ⟨rfl, hb4⟩
  have hal := below_alloc (Below.refl w3.heap.size w3) (.cells #[.string s1, .int .i64 x1] 69)
  have HB4 := Lib.hid (HB3.out.trans (Below.mono (hal.trans (Below.mono hb4 hal.size)) HB3.out.size))
  have hb34 : Below w3.heap.size w3 w4 := hal.trans (Below.mono hb4 hal.size)
  have HK04 := Lib.hid ((hb34.block _ (blk_lt HK03.out)).trans HK03.out)
  have HK14 := Lib.hid ((hb34.block _ (blk_lt HK13.out)).trans HK13.out)
  have hk04 := (heap_alloc_old w4 (.cells #[.string s2, .int .i64 0] 69) (blk_lt HK04.out)).trans HK04.out
  have hk14 := (heap_alloc_old w4 (.cells #[.string s2, .int .i64 0] 69) (blk_lt HK14.out)).trans HK14.out
  have HK15 := Lib.hid hk14
  have k0 := (blk_cell hk04 0).trans rfl
  have r0 := blk_cell hk14 0
  have r1 := blk_cell hk14 1
  have r2 := blk_frozen hk14 0
  have r3 := blk_frozen hk14 1
  simp only [List.getElem?_toArray, List.getElem?_cons_zero, List.getElem?_cons_succ] at r0 r1
  clear hb4 hal hb34 hk04 hk14
  have HR9 := Lib.hid (blk_set (blk_set HK15.out 0 (.string s2)) 1 (.int .i64 0))
  have HB9 := Lib.hid (((below_alloc HB4.out (.cells #[.string s2, .int .i64 0] 69)).setCell (p := ⟨w.heap.size + 1, 0, none⟩) (by simp) (.string s2)).setCell (p := ⟨w.heap.size + 1, 1, none⟩) (by simp) (.int .i64 0))
  go_wp2_with fail
  exact bodyPost_ret (results_ct rfl _ _ (w.heap.size + 1) 69 #[.string s2, .int .i64 0] (0, 0) _ rfl HR9.out Try.underlying69 rfl (by kernel_rfl)) rfl ⟨rfl, HB9.out⟩
set_option maxHeartbeats 4000000 in
set_option maxRecDepth 100000 in
theorem rwords_ok0 (s s1 s2 t2 : ByteArray) (e a n x1 x2 : Int) (w : World) (ha : ¬ a < 0) (hm : 0 ≤ a ∧ a ≤ 9223372036854775807) (hn : 0 ≤ n ∧ n ≤ 9223372036854775807)
    (HCNT : Hid (∀ w : World, Calls Try.prog 28 #[.agg #[.string s, .int .i64 e], .int .u64 a] w fun x w' => x = .returned (.tuple #[.agg #[.string s1, .int .i64 x1], .int .u64 n]) ∧ Below w.heap.size w w'))
    (HTK : Hid (∀ w : World, Calls Try.prog 42 #[.agg #[.string s1, .int .i64 x1], .int .i64 n] w fun x w' => x = .returned (.tuple #[.agg #[.string s2, .int .i64 x2], .string t2]) ∧ Below w.heap.size w w')) (hx : x2 = 0) :
    Calls Try.prog 29 #[.agg #[.string s, .int .i64 e], .int .i64 a] w fun x w' => x = .returned (.tuple #[.agg #[.string s2, .int .i64 0], .string t2]) ∧ Below w.heap.size w w' := by
  have f1 : decide (a < 0) = false := decide_eq_false ha
  have hw1 : IntKind.u64.wrap a = a := u64w_id hm.1 (by omega)
  have hw2 : IntKind.i64.wrap n = n := IntWalk.i64_in _ (by omega)
  subst hx
  clear ha hm hn
  go_enter Try.func29, Try.ntmps29
  go_wp2_with fail
  generalize hW2 : World.alloc _ _ = W2
  have HB2 := Lib.hid (show Below w.heap.size w W2 by rw [← hW2]; exact below_alloc (below_alloc (Below.refl _ _) _) _)
  have hk0 : W2.heap[w.heap.size]? = some (.cells #[.string s, .int .i64 e] 69 (0, 0)) := by rw [← hW2]; exact heap_alloc2_old _ _ _
  have hk1 : W2.heap[w.heap.size + 1]? = some (.cells #[.string ⟨#[]⟩, .int .i64 0] 69 (0, 0)) := by rw [← hW2]; exact heap_alloc2_new _ _ _
  have HK0 := Lib.hid hk0
  have HK1 := Lib.hid hk1
  clear hk0 hk1 hW2
  refine (HCNT.out _).mono ?_
  rintro y w3 ⟨rfl, hb3⟩
  have HB3 := Lib.hid (HB2.out.trans (Below.mono hb3 HB2.out.size))
  have HK03 := Lib.hid ((hb3.block _ (blk_lt HK0.out)).trans HK0.out)
  have HK13 := Lib.hid ((hb3.block _ (blk_lt HK1.out)).trans HK1.out)
  clear hb3
  go_wp2_with fail
  refine (HTK.out _).mono ?_
  rintro y w4 ⟨rfl, hb4⟩
  have hal := below_alloc (Below.refl w3.heap.size w3) (.cells #[.string s1, .int .i64 x1] 69)
  have HB4 := Lib.hid (HB3.out.trans (Below.mono (hal.trans (Below.mono hb4 hal.size)) HB3.out.size))
  have hb34 : Below w3.heap.size w3 w4 := hal.trans (Below.mono hb4 hal.size)
  have HK04 := Lib.hid ((hb34.block _ (blk_lt HK03.out)).trans HK03.out)
  have HK14 := Lib.hid ((hb34.block _ (blk_lt HK13.out)).trans HK13.out)
  have hk04 := (heap_alloc_old w4 (.cells #[.string s2, .int .i64 0] 69) (blk_lt HK04.out)).trans HK04.out
  have hk14 := (heap_alloc_old w4 (.cells #[.string s2, .int .i64 0] 69) (blk_lt HK14.out)).trans HK14.out
  have HK15 := Lib.hid hk14
  have k0 := (blk_cell hk04 0).trans rfl
  have r0 := blk_cell hk14 0
  have r1 := blk_cell hk14 1
  have r2 := blk_frozen hk14 0
  have r3 := blk_frozen hk14 1
  simp only [List.getElem?_toArray, List.getElem?_cons_zero, List.getElem?_cons_succ] at r0 r1
  clear hb4 hal hb34 hk04 hk14
  have HR9 := Lib.hid (blk_set (blk_set HK15.out 0 (.string s2)) 1 (.int .i64 0))
  have HB9 := Lib.hid (((below_alloc HB4.out (.cells #[.string s2, .int .i64 0] 69)).setCell (p := ⟨w.heap.size + 1, 0, none⟩) (by simp) (.string s2)).setCell (p := ⟨w.heap.size + 1, 1, none⟩) (by simp) (.int .i64 0))
  go_wp2_with fail
  exact bodyPost_ret (results_ct rfl _ _ (w.heap.size + 1) 69 #[.string s2, .int .i64 0] (0, 0) _ rfl HR9.out Try.underlying69 rfl (by kernel_rfl)) rfl ⟨rfl, HB9.out⟩
set_option maxHeartbeats 4000000 in
set_option maxRecDepth 100000 in
theorem rwords_no1 (s s1 s2 t2 : ByteArray) (e a n x1 x2 : Int) (w : World) (ha : a < 0) (hm : 0 ≤ (0 : Int) ∧ (0 : Int) ≤ 9223372036854775807) (hn : 0 ≤ n ∧ n ≤ 9223372036854775807)
    (HCNT : Hid (∀ w : World, Calls Try.prog 28 #[.agg #[.string s, .int .i64 e], .int .u64 0] w fun x w' => x = .returned (.tuple #[.agg #[.string s1, .int .i64 x1], .int .u64 n]) ∧ Below w.heap.size w w'))
    (HTK : Hid (∀ w : World, Calls Try.prog 42 #[.agg #[.string s1, .int .i64 x1], .int .i64 n] w fun x w' => x = .returned (.tuple #[.agg #[.string s2, .int .i64 x2], .string t2]) ∧ Below w.heap.size w w')) (hx : x2 ≠ 0) :
    Calls Try.prog 29 #[.agg #[.string s, .int .i64 e], .int .i64 a] w fun x w' => x = .returned (.tuple #[.agg #[.string s, .int .i64 x2], .string ⟨#[]⟩]) ∧ Below w.heap.size w w' := by
  have f1 : decide (a < 0) = true := decide_eq_true ha
  have hw2 : IntKind.i64.wrap n = n := IntWalk.i64_in _ (by omega)
  have b1 : (x2 != 0) = true := bne_iff_ne.2 hx
  clear ha hm hn hx
  go_enter Try.func29, Try.ntmps29
  go_wp2_with fail
  generalize hW2 : World.alloc _ _ = W2
  have HB2 := Lib.hid (show Below w.heap.size w W2 by rw [← hW2]; exact below_alloc (below_alloc (Below.refl _ _) _) _)
  have hk0 : W2.heap[w.heap.size]? = some (.cells #[.string s, .int .i64 e] 69 (0, 0)) := by rw [← hW2]; exact heap_alloc2_old _ _ _
  have hk1 : W2.heap[w.heap.size + 1]? = some (.cells #[.string ⟨#[]⟩, .int .i64 0] 69 (0, 0)) := by rw [← hW2]; exact heap_alloc2_new _ _ _
  have HK0 := Lib.hid hk0
  have HK1 := Lib.hid hk1
  clear hk0 hk1 hW2
  refine (HCNT.out _).mono ?_
  rintro y w3 ⟨rfl, hb3⟩
  have HB3 := Lib.hid (HB2.out.trans (Below.mono hb3 HB2.out.size))
  have HK03 := Lib.hid ((hb3.block _ (blk_lt HK0.out)).trans HK0.out)
  have HK13 := Lib.hid ((hb3.block _ (blk_lt HK1.out)).trans HK1.out)
  clear hb3
  go_wp2_with fail
  refine (HTK.out _).mono ?_
  rintro y w4 ⟨rfl, hb4⟩
  have hal := below_alloc (Below.refl w3.heap.size w3) (.cells #[.string s1, .int .i64 x1] 69)
  have HB4 := Lib.hid (HB3.out.trans (Below.mono (hal.trans (Below.mono hb4 hal.size)) HB3.out.size))
  have hb34 : Below w3.heap.size w3 w4 := hal.trans (Below.mono hb4 hal.size)
  have HK04 := Lib.hid ((hb34.block _ (blk_lt HK03.out)).trans HK03.out)
  have HK14 := Lib.hid ((hb34.block _ (blk_lt HK13.out)).trans HK13.out)
  have hk04 := (heap_alloc_old w4 (.cells #[.string s2, .int .i64 x2] 69) (blk_lt HK04.out)).trans HK04.out
  have hk14 := (heap_alloc_old w4 (.cells #[.string s2, .int .i64 x2] 69) (blk_lt HK14.out)).trans HK14.out
  have HK15 := Lib.hid hk14
  have k0 := (blk_cell hk04 0).trans rfl
  have r0 := blk_cell hk14 0
  have r1 := blk_cell hk14 1
  have r2 := blk_frozen hk14 0
  have r3 := blk_frozen hk14 1
  simp only [List.getElem?_toArray, List.getElem?_cons_zero, List.getElem?_cons_succ] at r0 r1
  clear hb4 hal hb34 hk04 hk14
  have HR9 := Lib.hid (blk_set (blk_set HK15.out 0 (.string s)) 1 (.int .i64 x2))
  have HB9 := Lib.hid (((below_alloc HB4.out (.cells #[.string s2, .int .i64 x2] 69)).setCell (p := ⟨w.heap.size + 1, 0, none⟩) (by simp) (.string s)).setCell (p := ⟨w.heap.size + 1, 1, none⟩) (by simp) (.int .i64 x2))
  go_wp2_with fail
  exact bodyPost_ret (results_ct rfl _ _ (w.heap.size + 1) 69 #[.string s, .int .i64 x2] (0, 0) _ rfl HR9.out Try.underlying69 rfl (by kernel_rfl)) rfl ⟨rfl, HB9.out⟩
set_option maxHeartbeats 4000000 in
set_option maxRecDepth 100000 in
theorem rwords_no0 (s s1 s2 t2 : ByteArray) (e a n x1 x2 : Int) (w : World) (ha : ¬ a < 0) (hm : 0 ≤ a ∧ a ≤ 9223372036854775807) (hn : 0 ≤ n ∧ n ≤ 9223372036854775807)
    (HCNT : Hid (∀ w : World, Calls Try.prog 28 #[.agg #[.string s, .int .i64 e], .int .u64 a] w fun x w' => x = .returned (.tuple #[.agg #[.string s1, .int .i64 x1], .int .u64 n]) ∧ Below w.heap.size w w'))
    (HTK : Hid (∀ w : World, Calls Try.prog 42 #[.agg #[.string s1, .int .i64 x1], .int .i64 n] w fun x w' => x = .returned (.tuple #[.agg #[.string s2, .int .i64 x2], .string t2]) ∧ Below w.heap.size w w')) (hx : x2 ≠ 0) :
    Calls Try.prog 29 #[.agg #[.string s, .int .i64 e], .int .i64 a] w fun x w' => x = .returned (.tuple #[.agg #[.string s, .int .i64 x2], .string ⟨#[]⟩]) ∧ Below w.heap.size w w' := by
  have f1 : decide (a < 0) = false := decide_eq_false ha
  have hw1 : IntKind.u64.wrap a = a := u64w_id hm.1 (by omega)
  have hw2 : IntKind.i64.wrap n = n := IntWalk.i64_in _ (by omega)
  have b1 : (x2 != 0) = true := bne_iff_ne.2 hx
  clear ha hm hn hx
  go_enter Try.func29, Try.ntmps29
  go_wp2_with fail
  generalize hW2 : World.alloc _ _ = W2
  have HB2 := Lib.hid (show Below w.heap.size w W2 by rw [← hW2]; exact below_alloc (below_alloc (Below.refl _ _) _) _)
  have hk0 : W2.heap[w.heap.size]? = some (.cells #[.string s, .int .i64 e] 69 (0, 0)) := by rw [← hW2]; exact heap_alloc2_old _ _ _
  have hk1 : W2.heap[w.heap.size + 1]? = some (.cells #[.string ⟨#[]⟩, .int .i64 0] 69 (0, 0)) := by rw [← hW2]; exact heap_alloc2_new _ _ _
  have HK0 := Lib.hid hk0
  have HK1 := Lib.hid hk1
  clear hk0 hk1 hW2
  refine (HCNT.out _).mono ?_
  rintro y w3 ⟨rfl, hb3⟩
  have HB3 := Lib.hid (HB2.out.trans (Below.mono hb3 HB2.out.size))
  have HK03 := Lib.hid ((hb3.block _ (blk_lt HK0.out)).trans HK0.out)
  have HK13 := Lib.hid ((hb3.block _ (blk_lt HK1.out)).trans HK1.out)
  clear hb3
  go_wp2_with fail
  refine (HTK.out _).mono ?_
  rintro y w4 ⟨rfl, hb4⟩
  have hal := below_alloc (Below.refl w3.heap.size w3) (.cells #[.string s1, .int .i64 x1] 69)
  have HB4 := Lib.hid (HB3.out.trans (Below.mono (hal.trans (Below.mono hb4 hal.size)) HB3.out.size))
  have hb34 : Below w3.heap.size w3 w4 := hal.trans (Below.mono hb4 hal.size)
  have HK04 := Lib.hid ((hb34.block _ (blk_lt HK03.out)).trans HK03.out)
  have HK14 := Lib.hid ((hb34.block _ (blk_lt HK13.out)).trans HK13.out)
  have hk04 := (heap_alloc_old w4 (.cells #[.string s2, .int .i64 x2] 69) (blk_lt HK04.out)).trans HK04.out
  have hk14 := (heap_alloc_old w4 (.cells #[.string s2, .int .i64 x2] 69) (blk_lt HK14.out)).trans HK14.out
  have HK15 := Lib.hid hk14
  have k0 := (blk_cell hk04 0).trans rfl
  have r0 := blk_cell hk14 0
  have r1 := blk_cell hk14 1
  have r2 := blk_frozen hk14 0
  have r3 := blk_frozen hk14 1
  simp only [List.getElem?_toArray, List.getElem?_cons_zero, List.getElem?_cons_succ] at r0 r1
  clear hb4 hal hb34 hk04 hk14
  have HR9 := Lib.hid (blk_set (blk_set HK15.out 0 (.string s)) 1 (.int .i64 x2))
  have HB9 := Lib.hid (((below_alloc HB4.out (.cells #[.string s2, .int .i64 x2] 69)).setCell (p := ⟨w.heap.size + 1, 0, none⟩) (by simp) (.string s)).setCell (p := ⟨w.heap.size + 1, 1, none⟩) (by simp) (.int .i64 x2))
  go_wp2_with fail
  exact bodyPost_ret (results_ct rfl _ _ (w.heap.size + 1) 69 #[.string s, .int .i64 x2] (0, 0) _ rfl HR9.out Try.underlying69 rfl (by kernel_rfl)) rfl ⟨rfl, HB9.out⟩
theorem rwords_calls (xs : List Int) (e a : Int) (hl : xs.length ≤ 1000000) (hb : ∀ x ∈ xs, 0 ≤ x ∧ x < 256) (ha : a ≤ 9223372036854775807) (w : World) : Calls Try.prog 29 #[.agg #[.string (strOfNums xs), .int .i64 e], .int .i64 a] w fun x w' => x = .returned (.tuple #[.agg #[.string (strOfNums (xs.drop (textR xs 0 e a).2.1)), .int .i64 (textR xs 0 e a).2.2], .string (strOfNums (textR xs 0 e a).1)]) ∧ Below w.heap.size w w' := by
  obtain ⟨m, hm⟩ : ∃ m : Int, mx a 0 = m := ⟨_, rfl⟩
  have hm1 : (a < 0 → m = 0) ∧ (¬ a < 0 → m = a) := by rw [← hm]; unfold mx; constructor <;> intro h <;> split <;> omega
  have hm0 : 0 ≤ m ∧ m ≤ 9223372036854775807 := by rw [← hm]; unfold mx; split <;> omega
  have hcnt := fun w => rcount_calls xs e m hl hb w
  have hvu := varR_u64 hb 0 e (most := m) hm0.1
  have hvl := varR_le (bs := xs) (p := 0) (Nat.zero_le _) e m
  unfold textR
  rw [hm]
  obtain ⟨r, hr⟩ : ∃ r, varR xs 0 e m = r := ⟨_, rfl⟩
  rw [hr] at hcnt hvu hvl ⊢
  obtain ⟨n, p1, x1⟩ := r
  simp only at hcnt hvu hvl ⊢
  rw [takeR_drop xs p1 hvl]
  have htk := fun w => rtake_calls (xs.drop p1) x1 n (by simp; omega) w
  obtain ⟨r2, hr2⟩ : ∃ r2, takeR (xs.drop p1) 0 x1 n = r2 := ⟨_, rfl⟩
  rw [hr2] at htk ⊢
  obtain ⟨ys, p2, x2⟩ := r2
  simp only at htk
  rw [List.drop_drop] at htk
  unfold text2
  simp only
  have HCNT := Lib.hid hcnt
  have HTK := Lib.hid htk
  have hn : 0 ≤ n ∧ n ≤ 9223372036854775807 := by omega
  by_cases hx : x2 = 0
  · rw [if_neg (by simpa using hx)]
    have hx0 := hx
    subst hx0
    by_cases hneg : a < 0
    · have hz := hm1.1 hneg
      subst hz
      exact rwords_ok1 _ _ _ _ e a n x1 0 w hneg hm0 hn HCNT HTK rfl
    · have hz := hm1.2 hneg
      subst hz
      exact rwords_ok0 _ _ _ _ e m n x1 0 w hneg hm0 hn HCNT HTK rfl
  · rw [if_pos hx]
    by_cases hneg : a < 0
    · have hz := hm1.1 hneg
      subst hz
      exact rwords_no1 _ _ _ _ e a n x1 x2 w hneg hm0 hn HCNT HTK hx
    · have hz := hm1.2 hneg
      subst hz
      exact rwords_no0 _ _ _ _ e m n x1 x2 w hneg hm0 hn HCNT HTK hx
end Go.Proofs.Ytpjkhecefppamaa.Hand
