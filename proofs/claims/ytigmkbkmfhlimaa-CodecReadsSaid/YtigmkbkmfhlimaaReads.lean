/- The law's 'reads', walked: a part of both. -/
import Derived.Test.YtigmkbkmfhlimaaProg
import Derived.Below
import Derived.Deep.Draws
import Derived.Deep.AppendLies
import Derived.Maps.AppendAt
import Derived.OwnWalk
import Derived.Laws.BytesArg
import Derived.Laws.MakeOwn
import Derived.Laws.OwnMore
import Derived.Deep.OwnRows
import Derived.Tactics
import Derived.Lib.ConvBytes
import Derived.Laws.Slices
import Derived.WalkKit
import Derived.KernelRfl
import Derived.RowKit3
import Derived.Deep.LoopGhost
import Derived.Deep.QuietTactic
import Derived.BigQuiet
import Derived.WideLaws
import Derived.Deep.DeepCutAuto
import Derived.Deep.CutBlock
import Derived.Deep.RegionHeld3
import Derived.Laws.Rows
import Derived.Lib.AppendStr
import Derived.ArgAppend
import Derived.Laws.IdiomCopy
import Derived.OrdersHeld
import Derived.Laws.BitsLemmas
import Derived.RowKit
import Derived.StillTailTactics
import Derived.Test.YtigmkbkmfhlimaaWWords
import Derived.Test.YtigmkbkmfhlimaaWLast
import Derived.Test.YtigmkbkmfhlimaaWMore
import Derived.Lib.Hide
import Derived.LaidEql
import Derived.Outline
import Derived.Deep.RegionLaw
import Derived.Deep.RegionHeld3
import Derived.BigRegion
import Derived.Test.YtigmkbkmfhlimaaAwake
import Derived.Test.YtigmkbkmfhlimaaWriter
import Derived.Test.YtigmkbkmfhlimaaReader2
import Derived.Test.YtigmkbkmfhlimaaOpens
import Derived.Deep.DrawnRows
import Derived.Test.YtigmkbkmfhlimaaRefAt
import Derived.Test.YtigmkbkmfhlimaaStrBytes
namespace Go.Proofs.Ytigmkbkmfhlimaa.Hand
open Go Go.RowKit Go.Proofs.Ytigmkbkmfhlimaa.Plain Go.Proofs.Ytigmkbkmfhlimaa.PAll Go.Proofs.YtigmkbkmfhlimaaW.PrintWords Go.Proofs.YtigmkbkmfhlimaaW.PrintLast Go.Proofs.YtigmkbkmfhlimaaW.PrintMore
attribute [local go_sem] max2_int min2_int max_two min_two max_three min_three max_four min_four
set_option linter.unusedVariables false
set_option linter.unusedSimpArgs false
attribute [local go_sem ↓] Go.wp_at_zero Go.wp_at_succ
/-- A part: (Kind, N, M, B). -/
abbrev Part := Int × Int × Int × List Int
def kOp : Kd Part := Kd.pair (Kd.int .i64) (Kd.pair (Kd.int .u64) (Kd.pair (Kd.int .i64) (Kd.slice 5 (Kd.int .u8))))
def zOp : Part := (0, 0, 0, [])
def rdP (xs : List Part) (i : Int) : Part := xs.getD i.toNat zOp
theorem kOp_open {w : World} {x : Part} {cs : List Value} (h : kOp.K w x cs) : ∃ A c, cs = [.int .i64 x.1, .int .u64 x.2.1, .int .i64 x.2.2.1, .slice A x.2.2.2.length c] ∧ x.2.2.2.length ≤ c ∧ Kd.C (Kd.int .u8) w A x.2.2.2.length x.2.2.2 := by
  obtain ⟨_, _, rfl, rfl, ⟨_, _, rfl, rfl, ⟨_, _, rfl, rfl, ⟨A, c, rfl, hl, hC⟩⟩⟩⟩ := h
  exact ⟨A, c, rfl, hl, hC⟩
theorem at_op {w : World} {A : Option Addr} {n : Nat} {xs : List Part} (h : Kd.C kOp w A n xs) (i : Int) (h0 : 0 ≤ i) (h1 : i < n) : ∃ ad A' c', A = some ad ∧ w.cell? (ad.add (i.toNat * 4)) = some (.int .i64 (rdP xs i).1) ∧ w.cell? ⟨(ad.add (i.toNat * 4)).block, (ad.add (i.toNat * 4)).off + 1, none⟩ = some (.int .u64 (rdP xs i).2.1) ∧ w.cell? ⟨(ad.add (i.toNat * 4)).block, (ad.add (i.toNat * 4)).off + 2, none⟩ = some (.int .i64 (rdP xs i).2.2.1) ∧ w.cell? ⟨(ad.add (i.toNat * 4)).block, (ad.add (i.toNat * 4)).off + 3, none⟩ = some (.slice A' (rdP xs i).2.2.2.length c') ∧ (rdP xs i).2.2.2.length ≤ c' ∧ Kd.C (Kd.int .u8) w A' (rdP xs i).2.2.2.length (rdP xs i).2.2.2 := by
  obtain ⟨ad, c, e, _, hK, hc0⟩ := Kd.C_get h zOp i h0 h1
  have hc : ∀ j u, c[j]? = some u → w.cell? (ad.add (i.toNat * 4 + j)) = some u := hc0
  obtain ⟨A', c', rfl, hl, hC⟩ := kOp_open hK
  exact ⟨ad, A', c', e, hc 0 _ rfl, by rw [← add_field _ _ 1 (by omega)]; exact hc 1 _ rfl, by rw [← add_field _ _ 2 (by omega)]; exact hc 2 _ rfl, by rw [← add_field _ _ 3 (by omega)]; exact hc 3 _ rfl, hl, hC⟩
theorem rdP_mem {xs : List Part} {i : Int} (h0 : 0 ≤ i) (h1 : i < (xs.length : Int)) : rdP xs i ∈ xs := by
  unfold rdP
  rw [List.getD_eq_getElem?_getD, List.getElem?_eq_getElem (by omega)]
  exact List.getElem_mem _
theorem RKeep.blk {w w1 : World} {B g k : Nat} {o : Obj} (h : RKeep w w1 B g) (hb : w.heap[k]? = some o) (hne : k ≠ g) : w1.heap[k]? = some o := (h.2.2 k (blk_lt hb) hne (by simp)).trans hb
theorem drewN_cell (w : World) (n : Nat) (a : Addr) : (w.drew.drewN n).cell? a = w.cell? a := rfl
theorem left_at {w : World} {B g : Nat} {bs : List Int} {p : Nat} {x : Int} {s : ByteArray} (h : IsR w B g bs (p : Int) x) (hp : p ≤ bs.length) (hl : bs.length ≤ 100000000) (hs : strOfNums (bs.drop p) = s) : Calls Try.prog 12 #[.pointer (some ⟨g, 0, none⟩)] w fun e' w' => e' = .returned (.int .i64 (s.size : Int)) ∧ ∃ n, w' = w.drewN n := by
  have h1 := cleft_calls h (by omega) (by omega) hl
  have h2 : (bs.length : Int) - (p : Int) = (s.size : Int) := by rw [← hs, strOfNums_size, List.length_drop]; omega
  rw [h2] at h1
  exact h1
/-- What a part leaves: the reader at another place, the text from there on, and yes. -/
def ReadsPost (bs : List Int) (B g : Nat) (w : World) (x : Ending) (w' : World) : Prop := ∃ (p2 : Nat) (x2 : Int), x = .returned (.tuple #[.agg #[.string (strOfNums (bs.drop p2)), .int .i64 x2], .bool true]) ∧ p2 ≤ bs.length ∧ IsR w' B g bs (p2 : Int) x2 ∧ RKeep w w' B g
set_option maxHeartbeats 8000000 in
set_option maxRecDepth 100000 in
theorem reads_num {w : World} {B g : Nat} {bs : List Int} {p : Nat} {x1 : Int} (h : IsR w B g bs (p : Int) x1) (hb : ∀ y ∈ bs, 0 ≤ y ∧ y < 256) (hp : p ≤ bs.length) (hl : bs.length ≤ 1000) (q n m : Int) (A' : Option Addr) (nn c' : Nat) (hm : m ≤ 9223372036854775807)
    (r7 : Int) (hr7 : Go.bits .and .i64 q 7 = r7) (hr5 : Int.tmod r7 5 = 0) :
    Calls Try.prog 27 #[.pointer (some ⟨g, 0, none⟩), .agg #[.string (strOfNums (bs.drop p)), .int .i64 x1], .agg #[.int .i64 q, .int .u64 n, .int .i64 m, .slice A' nn c']] w (ReadsPost bs B g w) := by
  have HBG := Lib.hid h.1
  have HLT := Lib.hid h.lt
  have HBW := Lib.hid (show B ≤ w.heap.size by have := h.1; have := h.lt; omega)
  have HW := Lib.hid h
  have HBY := Lib.hid hb
  have HPL := Lib.hid hp
  have HL := Lib.hid (show bs.length ≤ 100000000 by omega)
  have href := fun w => rnumber_at bs p hp x1 m (by omega) hb w
  have hrd := fun (w : World) hw => cnumr_calls (w := w) (B := B) (g := g) (p := p) (x := x1) hw hb hp HL.out m
  have hle := numR_le hp x1 m
  obtain ⟨⟨v, p2, x2⟩, hr⟩ : ∃ r, numR bs p x1 m = r := ⟨_, rfl⟩
  rw [hr] at href hrd hle
  simp only at href hrd hle
  have HREF := Lib.hid href
  have HRD := Lib.hid hrd
  have HLE := Lib.hid hle
  clear href hrd hle hr
  obtain ⟨s, hs⟩ : ∃ s, strOfNums (bs.drop p) = s := ⟨_, rfl⟩
  obtain ⟨s2, hs2⟩ : ∃ s2, strOfNums (bs.drop p2) = s2 := ⟨_, rfl⟩
  rw [hs, hs2] at HREF
  rw [hs]
  have hsz2 : (s2.size : Int) = (bs.length : Int) - (p2 : Int) := by rw [← hs2, strOfNums_size, List.length_drop]; have := HLE.out; omega
  have HS2 := Lib.hid hs2
  have HCM := Lib.hid hsz2.symm
  clear hs hs2 h hb hp hl hm hsz2
  go_enter Try.func27, Try.ntmps27
  go_wp2_with fail
  generalize hW3 : World.alloc _ _ = W3
  have hkx : W3.heap[w.heap.size]? = some (.cells #[.string s, .int .i64 x1] 50 (0, 0)) := by rw [← hW3]; exact (heap_alloc_old _ _ (by simp; omega)).trans (heap_alloc2_old _ _ _)
  have hko : W3.heap[w.heap.size + 1]? = some (.cells #[.int .i64 q, .int .u64 n, .int .i64 m, .slice A' nn c'] 40 (0, 0)) := by rw [← hW3]; exact (heap_alloc_old _ _ (by simp)).trans (heap_alloc2_new _ _ _)
  have hkr : W3.heap[w.heap.size + 1 + 1]? = some (.cells #[.string ⟨#[]⟩, .int .i64 0] 50 (0, 0)) := by rw [← hW3]; simpa using heap_alloc_new ((w.alloc (.cells #[.string s, .int .i64 x1] 50)).alloc (.cells #[.int .i64 q, .int .u64 n, .int .i64 m, .slice A' nn c'] 40)) (.cells #[.string ⟨#[]⟩, .int .i64 0] 50)
  have HW3 := Lib.hid (show IsR W3 B g bs (p : Int) x1 by rw [← hW3]; exact ((HW.out.alloc _).alloc _).alloc _)
  have HK3 := Lib.hid (show RKeep w W3 B g by rw [← hW3]; exact (RKeep.refl w B g).below HBW.out (below_alloc (below_alloc (below_alloc (Below.refl _ _) _) _) _))
  have HX := Lib.hid hkx
  have HO := Lib.hid hko
  have HRz := Lib.hid hkr
  clear hkx hko hkr hW3
  refine (HREF.out _).mono ?_
  rintro y w4 ⟨rfl, hb4⟩
  have HW4 := Lib.hid (HW3.out.later hb4)
  have HK4 := Lib.hid (HK3.out.below (by have := HW3.out.lt; have := HBG.out; omega) hb4)
  have HX4 := Lib.hid ((hb4.block _ (blk_lt HX.out)).trans HX.out)
  have HO4 := Lib.hid ((hb4.block _ (blk_lt HO.out)).trans HO.out)
  have HR4 := Lib.hid ((hb4.block _ (blk_lt HRz.out)).trans HRz.out)
  clear hb4 HX HO HRz HW3 HK3
  go_wp2_with fail
  have hy5 : (w4.alloc (.cells #[.string s2, .int .i64 x2] 50)).heap[w4.heap.size]? = some (.cells #[.string s2, .int .i64 x2] 50 (0, 0)) := by simpa using heap_alloc_new w4 (.cells #[.string s2, .int .i64 x2] 50)
  have HY5 := Lib.hid hy5
  have HX5 := Lib.hid ((heap_alloc_old w4 (.cells #[.string s2, .int .i64 x2] 50) (blk_lt HX4.out)).trans HX4.out)
  have HO5 := Lib.hid ((heap_alloc_old w4 (.cells #[.string s2, .int .i64 x2] 50) (blk_lt HO4.out)).trans HO4.out)
  have HR5 := Lib.hid ((heap_alloc_old w4 (.cells #[.string s2, .int .i64 x2] 50) (blk_lt HR4.out)).trans HR4.out)
  have HW5 := Lib.hid (HW4.out.alloc (.cells #[.string s2, .int .i64 x2] 50))
  have HK5 := Lib.hid (HK4.out.below (by have := HW4.out.lt; have := HBG.out; omega) (below_alloc (Below.refl _ _) (.cells #[.string s2, .int .i64 x2] 50)))
  have HNX := Lib.hid (show w4.heap.size ≠ w.heap.size by have := blk_lt HX4.out; omega)
  have HNY := Lib.hid (show w4.heap.size ≠ g by have := HW4.out.lt; omega)
  clear hy5 HX4 HO4 HR4 HW4 HK4
  generalize w4.alloc (.cells #[.string s2, .int .i64 x2] 50) = w5 at *
  generalize w4.heap.size = yb at *
  have y0 : w5.cell? ⟨yb, 0, none⟩ = some (.string s2) := (blk_cell HY5.out 0).trans rfl
  have y1 : w5.cell? ⟨yb, 1, none⟩ = some (.int .i64 x2) := (blk_cell HY5.out 1).trans rfl
  have o1 : w5.cell? ⟨w.heap.size + 1, 1, none⟩ = some (.int .u64 n) := (blk_cell HO5.out 1).trans rfl
  have o2 : w5.cell? ⟨w.heap.size + 1, 2, none⟩ = some (.int .i64 m) := (blk_cell HO5.out 2).trans rfl
  have hne5 := Lib.hid (show yb ≠ w.heap.size from HNX.out)
  have hno5 := Lib.hid (show w.heap.size + 1 ≠ w.heap.size by omega)
  go_region_held3 (fun w' => w'.cell? ⟨yb, 0, none⟩ = some (.string s2) ∧ w'.cell? ⟨yb, 1, none⟩ = some (.int .i64 x2) ∧ w'.cell? ⟨w.heap.size + 1, 1, none⟩ = some (.int .u64 n) ∧ w'.cell? ⟨w.heap.size + 1, 2, none⟩ = some (.int .i64 m)) (first | exact ⟨y0, y1, o1, o2⟩ | exact ⟨z0, z1, u1, u2⟩ | exact ⟨far_cell (far_cell z0 hne5.out _ _) hne5.out _ _, far_cell (far_cell z1 hne5.out _ _) hne5.out _ _, far_cell (far_cell u1 hno5.out _ _) hno5.out _ _, far_cell (far_cell u2 hno5.out _ _) hno5.out _ _⟩)
    (first | (go_at_call 24; refine (HRD.out _ HW5.out.drew).mono ?_; rintro y w6 ⟨rfl, hw6, hk6⟩; have HW6 := Lib.hid hw6; have HK6 := Lib.hid (HK5.out.drew.trans hk6); have hy6 := RKeep.blk hk6 HY5.out HNY.out; have ho6 := RKeep.blk hk6 HO5.out (by have := HLT.out; omega); have hx6 := RKeep.blk hk6 HX5.out (by have := HLT.out; omega); have HX6 := Lib.hid hx6; have HR6 := Lib.hid (RKeep.blk hk6 HR5.out (by have := HLT.out; omega)); have z0 := (blk_cell hy6 0).trans rfl; have z1 := (blk_cell hy6 1).trans rfl; have u1 := (blk_cell ho6 1).trans rfl; have u2 := (blk_cell ho6 2).trans rfl; have e0 := (blk_cell hx6 0).trans rfl; have e1 := (blk_cell hx6 1).trans rfl; have e2 := blk_frozen hx6 0; have e3 := blk_frozen hx6 1; clear hw6 hk6 hy6 ho6 hx6))
  all_goals
    have HXt := Lib.hid (blk_set (blk_set HX6.out 0 (.string s2)) 1 (.int .i64 x2))
    have HWt := Lib.hid ((HW6.out.setNew (k := w.heap.size) HLT.out 0 (.string s2)).setNew (k := w.heap.size) HLT.out 1 (.int .i64 x2))
    have HKt := Lib.hid ((HK6.out.setNew (k := w.heap.size) (Nat.le_refl _) HBW.out 0 (.string s2)).setNew (k := w.heap.size) (Nat.le_refl _) HBW.out 1 (.int .i64 x2))
    have HRt := Lib.hid ((Below.heap_setCell _ ⟨w.heap.size, 1, none⟩ (.int .i64 x2) (w.heap.size + 1 + 1) (by simp; omega)).trans ((Below.heap_setCell _ ⟨w.heap.size, 0, none⟩ (.string s2) (w.heap.size + 1 + 1) (by simp; omega)).trans HR6.out))
    clear y0 y1 o1 o2 z0 z1 u1 u2 e0 e1 e2 e3 HX6 HW6 HK6 HR6 HX5 HO5 HR5 HW5 HK5 HY5
    generalize (w6.setCell ⟨w.heap.size, 0, none⟩ (.string s2)).setCell ⟨w.heap.size, 1, none⟩ (.int .i64 x2) = w7 at *
    have x0 : w7.cell? ⟨w.heap.size, 0, none⟩ = some (.string s2) := (blk_cell HXt.out 0).trans rfl
    have x1_ : w7.cell? ⟨w.heap.size, 1, none⟩ = some (.int .i64 x2) := (blk_cell HXt.out 1).trans rfl
    have r0 : w7.cell? ⟨w.heap.size + 1 + 1, 0, none⟩ = some (.string ⟨#[]⟩) := (blk_cell HRt.out 0).trans rfl
    have r1 : w7.cell? ⟨w.heap.size + 1 + 1, 1, none⟩ = some (.int .i64 0) := (blk_cell HRt.out 1).trans rfl
    have r2 := blk_frozen HRt.out 0
    have r3 := blk_frozen HRt.out 1
    go_wp2_with fail
    have hne := Lib.hid (show w.heap.size ≠ w.heap.size + 1 + 1 by omega)
    have HALL := Lib.hid (show ∀ (w9 : World) (nd : Nat), w9 = w7.drew.drewN nd → Hid (IsR w9 B g bs (p2 : Int) x2) ∧ Hid (RKeep w w9 B g) ∧ Hid (w9.heap[w.heap.size + 1 + 1]? = some (.cells #[.string ⟨#[]⟩, .int .i64 0] 50 (0, 0))) ∧ w9.cell? ⟨w.heap.size, 0, none⟩ = some (.string s2) ∧ w9.cell? ⟨w.heap.size, 1, none⟩ = some (.int .i64 x2) ∧ w9.cell? ⟨w.heap.size + 1 + 1, 0, none⟩ = some (.string ⟨#[]⟩) ∧ w9.cell? ⟨w.heap.size + 1 + 1, 1, none⟩ = some (.int .i64 0) ∧ w9.frozen? ⟨w.heap.size + 1 + 1, 0, none⟩ = false ∧ w9.frozen? ⟨w.heap.size + 1 + 1, 1, none⟩ = false from by
      rintro w9 nd rfl
      exact ⟨Lib.hid (HWt.out.drew.drewN nd), Lib.hid (HKt.out.drew.drewN nd), Lib.hid HRt.out, x0, x1_, r0, r1, r2, r3⟩)
    go_region_held3 (fun w' => w'.cell? ⟨w.heap.size, 0, none⟩ = some (.string s2) ∧ w'.cell? ⟨w.heap.size, 1, none⟩ = some (.int .i64 x2)) (first | exact ⟨x0, x1_⟩ | exact ⟨x9, x9_⟩ | exact ⟨far_cell (far_cell x9 hne.out _ _) hne.out _ _, far_cell (far_cell x9_ hne.out _ _) hne.out _ _⟩) (first | (go_at_call 11; refine (cerr_calls HWt.out.drew).mono ?_; rintro y w8 ⟨rfl, rfl⟩) | (go_at_call 12; refine (left_at HWt.out.drew HLE.out HL.out HS2.out).mono ?_; rintro y w9 ⟨rfl, nd, hn⟩; obtain ⟨HW9, HK9, HR9, x9, x9_, q0, q1, q2, q3⟩ := HALL.out w9 nd hn; clear hn))
    all_goals
      have HRf := Lib.hid (blk_set (blk_set HR9.out 0 (.string s2)) 1 (.int .i64 x2))
      have HWf := Lib.hid ((HW9.out.setNew (k := w.heap.size + 1 + 1) (by have := HLT.out; omega) 0 (.string s2)).setNew (k := w.heap.size + 1 + 1) (by have := HLT.out; omega) 1 (.int .i64 x2))
      have HKf := Lib.hid ((HK9.out.setNew (k := w.heap.size + 1 + 1) (by omega) (by have := HBW.out; omega) 0 (.string s2)).setNew (k := w.heap.size + 1 + 1) (by omega) (by have := HBW.out; omega) 1 (.int .i64 x2))
      go_wp2_with fail
      exact bodyPost_ret (results_ct rfl _ _ (w.heap.size + 1 + 1) 50 #[.string s2, .int .i64 x2] (0, 0) _ rfl HRf.out Try.underlying50 rfl (by kernel_rfl)) rfl ⟨p2, x2, by rw [HS2.out]; rfl, HLE.out, HWf.out, HKf.out⟩
set_option maxHeartbeats 8000000 in
set_option maxRecDepth 100000 in
theorem reads_var {w : World} {B g : Nat} {bs : List Int} {p : Nat} {x1 : Int} (h : IsR w B g bs (p : Int) x1) (hb : ∀ y ∈ bs, 0 ≤ y ∧ y < 256) (hp : p ≤ bs.length) (hl : bs.length ≤ 1000) (q n m : Int) (A' : Option Addr) (nn c' : Nat) (hm : m ≤ 9223372036854775807)
    (r7 : Int) (hr7 : Go.bits .and .i64 q 7 = r7) (hr5 : Int.tmod r7 5 = 1) :
    Calls Try.prog 27 #[.pointer (some ⟨g, 0, none⟩), .agg #[.string (strOfNums (bs.drop p)), .int .i64 x1], .agg #[.int .i64 q, .int .u64 n, .int .i64 m, .slice A' nn c']] w (ReadsPost bs B g w) := by
  have HBG := Lib.hid h.1
  have HLT := Lib.hid h.lt
  have HBW := Lib.hid (show B ≤ w.heap.size by have := h.1; have := h.lt; omega)
  have HW := Lib.hid h
  have HBY := Lib.hid hb
  have HPL := Lib.hid hp
  have HL := Lib.hid (show bs.length ≤ 100000000 by omega)
  have href := fun w => rcount_at bs p hp x1 n (by omega) hb w
  have hrd := fun (w : World) hw => cvarr_calls (w := w) (B := B) (g := g) (p := p) (x := x1) hw hb hp HL.out n
  have hle := varR_le hp x1 n
  obtain ⟨⟨v, p2, x2⟩, hr⟩ : ∃ r, varR bs p x1 n = r := ⟨_, rfl⟩
  rw [hr] at href hrd hle
  simp only at href hrd hle
  have HREF := Lib.hid href
  have HRD := Lib.hid hrd
  have HLE := Lib.hid hle
  clear href hrd hle hr
  obtain ⟨s, hs⟩ : ∃ s, strOfNums (bs.drop p) = s := ⟨_, rfl⟩
  obtain ⟨s2, hs2⟩ : ∃ s2, strOfNums (bs.drop p2) = s2 := ⟨_, rfl⟩
  rw [hs, hs2] at HREF
  rw [hs]
  have hsz2 : (s2.size : Int) = (bs.length : Int) - (p2 : Int) := by rw [← hs2, strOfNums_size, List.length_drop]; have := HLE.out; omega
  have HS2 := Lib.hid hs2
  have HCM := Lib.hid hsz2.symm
  clear hs hs2 h hb hp hl hm hsz2
  go_enter Try.func27, Try.ntmps27
  go_wp2_with fail
  generalize hW3 : World.alloc _ _ = W3
  have hkx : W3.heap[w.heap.size]? = some (.cells #[.string s, .int .i64 x1] 50 (0, 0)) := by rw [← hW3]; exact (heap_alloc_old _ _ (by simp; omega)).trans (heap_alloc2_old _ _ _)
  have hko : W3.heap[w.heap.size + 1]? = some (.cells #[.int .i64 q, .int .u64 n, .int .i64 m, .slice A' nn c'] 40 (0, 0)) := by rw [← hW3]; exact (heap_alloc_old _ _ (by simp)).trans (heap_alloc2_new _ _ _)
  have hkr : W3.heap[w.heap.size + 1 + 1]? = some (.cells #[.string ⟨#[]⟩, .int .i64 0] 50 (0, 0)) := by rw [← hW3]; simpa using heap_alloc_new ((w.alloc (.cells #[.string s, .int .i64 x1] 50)).alloc (.cells #[.int .i64 q, .int .u64 n, .int .i64 m, .slice A' nn c'] 40)) (.cells #[.string ⟨#[]⟩, .int .i64 0] 50)
  have HW3 := Lib.hid (show IsR W3 B g bs (p : Int) x1 by rw [← hW3]; exact ((HW.out.alloc _).alloc _).alloc _)
  have HK3 := Lib.hid (show RKeep w W3 B g by rw [← hW3]; exact (RKeep.refl w B g).below HBW.out (below_alloc (below_alloc (below_alloc (Below.refl _ _) _) _) _))
  have HX := Lib.hid hkx
  have HO := Lib.hid hko
  have HRz := Lib.hid hkr
  clear hkx hko hkr hW3
  refine (HREF.out _).mono ?_
  rintro y w4 ⟨rfl, hb4⟩
  have HW4 := Lib.hid (HW3.out.later hb4)
  have HK4 := Lib.hid (HK3.out.below (by have := HW3.out.lt; have := HBG.out; omega) hb4)
  have HX4 := Lib.hid ((hb4.block _ (blk_lt HX.out)).trans HX.out)
  have HO4 := Lib.hid ((hb4.block _ (blk_lt HO.out)).trans HO.out)
  have HR4 := Lib.hid ((hb4.block _ (blk_lt HRz.out)).trans HRz.out)
  clear hb4 HX HO HRz HW3 HK3
  go_wp2_with fail
  have hy5 : (w4.alloc (.cells #[.string s2, .int .i64 x2] 50)).heap[w4.heap.size]? = some (.cells #[.string s2, .int .i64 x2] 50 (0, 0)) := by simpa using heap_alloc_new w4 (.cells #[.string s2, .int .i64 x2] 50)
  have HY5 := Lib.hid hy5
  have HX5 := Lib.hid ((heap_alloc_old w4 (.cells #[.string s2, .int .i64 x2] 50) (blk_lt HX4.out)).trans HX4.out)
  have HO5 := Lib.hid ((heap_alloc_old w4 (.cells #[.string s2, .int .i64 x2] 50) (blk_lt HO4.out)).trans HO4.out)
  have HR5 := Lib.hid ((heap_alloc_old w4 (.cells #[.string s2, .int .i64 x2] 50) (blk_lt HR4.out)).trans HR4.out)
  have HW5 := Lib.hid (HW4.out.alloc (.cells #[.string s2, .int .i64 x2] 50))
  have HK5 := Lib.hid (HK4.out.below (by have := HW4.out.lt; have := HBG.out; omega) (below_alloc (Below.refl _ _) (.cells #[.string s2, .int .i64 x2] 50)))
  have HNX := Lib.hid (show w4.heap.size ≠ w.heap.size by have := blk_lt HX4.out; omega)
  have HNY := Lib.hid (show w4.heap.size ≠ g by have := HW4.out.lt; omega)
  clear hy5 HX4 HO4 HR4 HW4 HK4
  generalize w4.alloc (.cells #[.string s2, .int .i64 x2] 50) = w5 at *
  generalize w4.heap.size = yb at *
  have y0 : w5.cell? ⟨yb, 0, none⟩ = some (.string s2) := (blk_cell HY5.out 0).trans rfl
  have y1 : w5.cell? ⟨yb, 1, none⟩ = some (.int .i64 x2) := (blk_cell HY5.out 1).trans rfl
  have o1 : w5.cell? ⟨w.heap.size + 1, 1, none⟩ = some (.int .u64 n) := (blk_cell HO5.out 1).trans rfl
  have o2 : w5.cell? ⟨w.heap.size + 1, 2, none⟩ = some (.int .i64 m) := (blk_cell HO5.out 2).trans rfl
  have hne5 := Lib.hid (show yb ≠ w.heap.size from HNX.out)
  have hno5 := Lib.hid (show w.heap.size + 1 ≠ w.heap.size by omega)
  go_region_held3 (fun w' => w'.cell? ⟨yb, 0, none⟩ = some (.string s2) ∧ w'.cell? ⟨yb, 1, none⟩ = some (.int .i64 x2) ∧ w'.cell? ⟨w.heap.size + 1, 1, none⟩ = some (.int .u64 n) ∧ w'.cell? ⟨w.heap.size + 1, 2, none⟩ = some (.int .i64 m)) (first | exact ⟨y0, y1, o1, o2⟩ | exact ⟨z0, z1, u1, u2⟩ | exact ⟨far_cell (far_cell z0 hne5.out _ _) hne5.out _ _, far_cell (far_cell z1 hne5.out _ _) hne5.out _ _, far_cell (far_cell u1 hno5.out _ _) hno5.out _ _, far_cell (far_cell u2 hno5.out _ _) hno5.out _ _⟩)
    (first | (go_at_call 10; refine (HRD.out _ HW5.out.drew).mono ?_; rintro y w6 ⟨rfl, hw6, hk6⟩; have HW6 := Lib.hid hw6; have HK6 := Lib.hid (HK5.out.drew.trans hk6); have hy6 := RKeep.blk hk6 HY5.out HNY.out; have ho6 := RKeep.blk hk6 HO5.out (by have := HLT.out; omega); have hx6 := RKeep.blk hk6 HX5.out (by have := HLT.out; omega); have HX6 := Lib.hid hx6; have HR6 := Lib.hid (RKeep.blk hk6 HR5.out (by have := HLT.out; omega)); have z0 := (blk_cell hy6 0).trans rfl; have z1 := (blk_cell hy6 1).trans rfl; have u1 := (blk_cell ho6 1).trans rfl; have u2 := (blk_cell ho6 2).trans rfl; have e0 := (blk_cell hx6 0).trans rfl; have e1 := (blk_cell hx6 1).trans rfl; have e2 := blk_frozen hx6 0; have e3 := blk_frozen hx6 1; clear hw6 hk6 hy6 ho6 hx6))
  all_goals
    have HXt := Lib.hid (blk_set (blk_set HX6.out 0 (.string s2)) 1 (.int .i64 x2))
    have HWt := Lib.hid ((HW6.out.setNew (k := w.heap.size) HLT.out 0 (.string s2)).setNew (k := w.heap.size) HLT.out 1 (.int .i64 x2))
    have HKt := Lib.hid ((HK6.out.setNew (k := w.heap.size) (Nat.le_refl _) HBW.out 0 (.string s2)).setNew (k := w.heap.size) (Nat.le_refl _) HBW.out 1 (.int .i64 x2))
    have HRt := Lib.hid ((Below.heap_setCell _ ⟨w.heap.size, 1, none⟩ (.int .i64 x2) (w.heap.size + 1 + 1) (by simp; omega)).trans ((Below.heap_setCell _ ⟨w.heap.size, 0, none⟩ (.string s2) (w.heap.size + 1 + 1) (by simp; omega)).trans HR6.out))
    clear y0 y1 o1 o2 z0 z1 u1 u2 e0 e1 e2 e3 HX6 HW6 HK6 HR6 HX5 HO5 HR5 HW5 HK5 HY5
    generalize (w6.setCell ⟨w.heap.size, 0, none⟩ (.string s2)).setCell ⟨w.heap.size, 1, none⟩ (.int .i64 x2) = w7 at *
    have x0 : w7.cell? ⟨w.heap.size, 0, none⟩ = some (.string s2) := (blk_cell HXt.out 0).trans rfl
    have x1_ : w7.cell? ⟨w.heap.size, 1, none⟩ = some (.int .i64 x2) := (blk_cell HXt.out 1).trans rfl
    have r0 : w7.cell? ⟨w.heap.size + 1 + 1, 0, none⟩ = some (.string ⟨#[]⟩) := (blk_cell HRt.out 0).trans rfl
    have r1 : w7.cell? ⟨w.heap.size + 1 + 1, 1, none⟩ = some (.int .i64 0) := (blk_cell HRt.out 1).trans rfl
    have r2 := blk_frozen HRt.out 0
    have r3 := blk_frozen HRt.out 1
    go_wp2_with fail
    have hne := Lib.hid (show w.heap.size ≠ w.heap.size + 1 + 1 by omega)
    have HALL := Lib.hid (show ∀ (w9 : World) (nd : Nat), w9 = w7.drew.drewN nd → Hid (IsR w9 B g bs (p2 : Int) x2) ∧ Hid (RKeep w w9 B g) ∧ Hid (w9.heap[w.heap.size + 1 + 1]? = some (.cells #[.string ⟨#[]⟩, .int .i64 0] 50 (0, 0))) ∧ w9.cell? ⟨w.heap.size, 0, none⟩ = some (.string s2) ∧ w9.cell? ⟨w.heap.size, 1, none⟩ = some (.int .i64 x2) ∧ w9.cell? ⟨w.heap.size + 1 + 1, 0, none⟩ = some (.string ⟨#[]⟩) ∧ w9.cell? ⟨w.heap.size + 1 + 1, 1, none⟩ = some (.int .i64 0) ∧ w9.frozen? ⟨w.heap.size + 1 + 1, 0, none⟩ = false ∧ w9.frozen? ⟨w.heap.size + 1 + 1, 1, none⟩ = false from by
      rintro w9 nd rfl
      exact ⟨Lib.hid (HWt.out.drew.drewN nd), Lib.hid (HKt.out.drew.drewN nd), Lib.hid HRt.out, x0, x1_, r0, r1, r2, r3⟩)
    go_region_held3 (fun w' => w'.cell? ⟨w.heap.size, 0, none⟩ = some (.string s2) ∧ w'.cell? ⟨w.heap.size, 1, none⟩ = some (.int .i64 x2)) (first | exact ⟨x0, x1_⟩ | exact ⟨x9, x9_⟩ | exact ⟨far_cell (far_cell x9 hne.out _ _) hne.out _ _, far_cell (far_cell x9_ hne.out _ _) hne.out _ _⟩) (first | (go_at_call 11; refine (cerr_calls HWt.out.drew).mono ?_; rintro y w8 ⟨rfl, rfl⟩) | (go_at_call 12; refine (left_at HWt.out.drew HLE.out HL.out HS2.out).mono ?_; rintro y w9 ⟨rfl, nd, hn⟩; obtain ⟨HW9, HK9, HR9, x9, x9_, q0, q1, q2, q3⟩ := HALL.out w9 nd hn; clear hn))
    all_goals
      have HRf := Lib.hid (blk_set (blk_set HR9.out 0 (.string s2)) 1 (.int .i64 x2))
      have HWf := Lib.hid ((HW9.out.setNew (k := w.heap.size + 1 + 1) (by have := HLT.out; omega) 0 (.string s2)).setNew (k := w.heap.size + 1 + 1) (by have := HLT.out; omega) 1 (.int .i64 x2))
      have HKf := Lib.hid ((HK9.out.setNew (k := w.heap.size + 1 + 1) (by omega) (by have := HBW.out; omega) 0 (.string s2)).setNew (k := w.heap.size + 1 + 1) (by omega) (by have := HBW.out; omega) 1 (.int .i64 x2))
      go_wp2_with fail
      exact bodyPost_ret (results_ct rfl _ _ (w.heap.size + 1 + 1) 50 #[.string s2, .int .i64 x2] (0, 0) _ rfl HRf.out Try.underlying50 rfl (by kernel_rfl)) rfl ⟨p2, x2, by rw [HS2.out]; rfl, HLE.out, HWf.out, HKf.out⟩
set_option maxHeartbeats 8000000 in
set_option maxRecDepth 100000 in
theorem reads_take {w : World} {B g : Nat} {bs : List Int} {p : Nat} {x1 : Int} (h : IsR w B g bs (p : Int) x1) (hb : ∀ y ∈ bs, 0 ≤ y ∧ y < 256) (hp : p ≤ bs.length) (hl : bs.length ≤ 1000) (q n m : Int) (A' : Option Addr) (nn c' : Nat) (hm : m ≤ 9223372036854775807)
    (r7 : Int) (hr7 : Go.bits .and .i64 q 7 = r7) (hr5 : Int.tmod r7 5 = 2) :
    Calls Try.prog 27 #[.pointer (some ⟨g, 0, none⟩), .agg #[.string (strOfNums (bs.drop p)), .int .i64 x1], .agg #[.int .i64 q, .int .u64 n, .int .i64 m, .slice A' nn c']] w (ReadsPost bs B g w) := by
  have HBG := Lib.hid h.1
  have HLT := Lib.hid h.lt
  have HBW := Lib.hid (show B ≤ w.heap.size by have := h.1; have := h.lt; omega)
  have HW := Lib.hid h
  have HBY := Lib.hid hb
  have HPL := Lib.hid hp
  have HL := Lib.hid (show bs.length ≤ 100000000 by omega)
  have href := fun w => rtake_at bs p hp x1 m (by omega) w
  have hrd := fun (w : World) hw => ctake_calls (w := w) (B := B) (g := g) (p := p) (x := x1) hw hp HL.out m hm
  have hle := takeR_le hp x1 m
  obtain ⟨⟨ys, p2, x2⟩, hr⟩ : ∃ r, takeR bs p x1 m = r := ⟨_, rfl⟩
  rw [hr] at href hrd hle
  simp only at href hrd hle
  obtain ⟨v, hv⟩ : ∃ v, strOfNums ys = v := ⟨_, rfl⟩
  rw [hv] at href
  have HT := Lib.hid hv
  have HREF := Lib.hid href
  have HRD := Lib.hid hrd
  have HLE := Lib.hid hle
  clear href hrd hle hr hv
  obtain ⟨s, hs⟩ : ∃ s, strOfNums (bs.drop p) = s := ⟨_, rfl⟩
  obtain ⟨s2, hs2⟩ : ∃ s2, strOfNums (bs.drop p2) = s2 := ⟨_, rfl⟩
  rw [hs, hs2] at HREF
  rw [hs]
  have HS2 := Lib.hid hs2
  clear hs hs2 h hb hp hl hm
  go_enter Try.func27, Try.ntmps27
  go_upto_block 0 with (fail)
  generalize hW3 : World.alloc _ _ = W3
  have hkx : W3.heap[w.heap.size]? = some (.cells #[.string s, .int .i64 x1] 50 (0, 0)) := by rw [← hW3]; exact (heap_alloc_old _ _ (by simp; omega)).trans (heap_alloc2_old _ _ _)
  have hko : W3.heap[w.heap.size + 1]? = some (.cells #[.int .i64 q, .int .u64 n, .int .i64 m, .slice A' nn c'] 40 (0, 0)) := by rw [← hW3]; exact (heap_alloc_old _ _ (by simp)).trans (heap_alloc2_new _ _ _)
  have hkr : W3.heap[w.heap.size + 1 + 1]? = some (.cells #[.string ⟨#[]⟩, .int .i64 0] 50 (0, 0)) := by rw [← hW3]; simpa using heap_alloc_new ((w.alloc (.cells #[.string s, .int .i64 x1] 50)).alloc (.cells #[.int .i64 q, .int .u64 n, .int .i64 m, .slice A' nn c'] 40)) (.cells #[.string ⟨#[]⟩, .int .i64 0] 50)
  have HW3 := Lib.hid (show IsR W3 B g bs (p : Int) x1 by rw [← hW3]; exact ((HW.out.alloc _).alloc _).alloc _)
  have HK3 := Lib.hid (show RKeep w W3 B g by rw [← hW3]; exact (RKeep.refl w B g).below HBW.out (below_alloc (below_alloc (below_alloc (Below.refl _ _) _) _) _))
  have HX := Lib.hid hkx
  have HO := Lib.hid hko
  have HRz := Lib.hid hkr
  clear hkx hko hkr hW3
  go_cut [8] (fun s8 wx => s8 = .bool true ∧ Hid (wx.heap[w.heap.size]? = some (.cells #[.string s2, .int .i64 x2] 50 (0, 0))) ∧ Hid (IsR wx B g bs (p2 : Int) x2) ∧ Hid (RKeep w wx B g) ∧ Hid (wx.heap[w.heap.size + 1 + 1]? = some (.cells #[.string ⟨#[]⟩, .int .i64 0] 50 (0, 0))))
  case rest =>
    obtain ⟨rfl, HXt, HWt, HKt, HRt⟩ := hcut
    clear HX HO HRz HW3 HK3
    have x0 : wc.cell? ⟨w.heap.size, 0, none⟩ = some (.string s2) := (blk_cell HXt.out 0).trans rfl
    have x1_ : wc.cell? ⟨w.heap.size, 1, none⟩ = some (.int .i64 x2) := (blk_cell HXt.out 1).trans rfl
    have r0 : wc.cell? ⟨w.heap.size + 1 + 1, 0, none⟩ = some (.string ⟨#[]⟩) := (blk_cell HRt.out 0).trans rfl
    have r1 : wc.cell? ⟨w.heap.size + 1 + 1, 1, none⟩ = some (.int .i64 0) := (blk_cell HRt.out 1).trans rfl
    have r2 := blk_frozen HRt.out 0
    have r3 := blk_frozen HRt.out 1
    go_wp2_with fail
    have hne := Lib.hid (show w.heap.size ≠ w.heap.size + 1 + 1 by omega)
    have HALL := Lib.hid (show ∀ (w9 : World) (nd : Nat), w9 = wc.drew.drewN nd → Hid (IsR w9 B g bs (p2 : Int) x2) ∧ Hid (RKeep w w9 B g) ∧ Hid (w9.heap[w.heap.size + 1 + 1]? = some (.cells #[.string ⟨#[]⟩, .int .i64 0] 50 (0, 0))) ∧ w9.cell? ⟨w.heap.size, 0, none⟩ = some (.string s2) ∧ w9.cell? ⟨w.heap.size, 1, none⟩ = some (.int .i64 x2) ∧ w9.cell? ⟨w.heap.size + 1 + 1, 0, none⟩ = some (.string ⟨#[]⟩) ∧ w9.cell? ⟨w.heap.size + 1 + 1, 1, none⟩ = some (.int .i64 0) ∧ w9.frozen? ⟨w.heap.size + 1 + 1, 0, none⟩ = false ∧ w9.frozen? ⟨w.heap.size + 1 + 1, 1, none⟩ = false from by
      rintro w9 nd rfl
      exact ⟨Lib.hid (HWt.out.drew.drewN nd), Lib.hid (HKt.out.drew.drewN nd), Lib.hid HRt.out, x0, x1_, r0, r1, r2, r3⟩)
    go_region_held3 (fun w' => w'.cell? ⟨w.heap.size, 0, none⟩ = some (.string s2) ∧ w'.cell? ⟨w.heap.size, 1, none⟩ = some (.int .i64 x2)) (first | exact ⟨x0, x1_⟩ | exact ⟨x9, x9_⟩ | exact ⟨far_cell (far_cell x9 hne.out _ _) hne.out _ _, far_cell (far_cell x9_ hne.out _ _) hne.out _ _⟩) (first | (go_at_call 11; refine (cerr_calls HWt.out.drew).mono ?_; rintro y w8 ⟨rfl, rfl⟩) | (go_at_call 12; refine (left_at HWt.out.drew HLE.out HL.out HS2.out).mono ?_; rintro y w9 ⟨rfl, nd, hn⟩; obtain ⟨HW9, HK9, HR9, x9, x9_, q0, q1, q2, q3⟩ := HALL.out w9 nd hn; clear hn))
    all_goals
      have HRf := Lib.hid (blk_set (blk_set HR9.out 0 (.string s2)) 1 (.int .i64 x2))
      have HWf := Lib.hid ((HW9.out.setNew (k := w.heap.size + 1 + 1) (by have := HLT.out; omega) 0 (.string s2)).setNew (k := w.heap.size + 1 + 1) (by have := HLT.out; omega) 1 (.int .i64 x2))
      have HKf := Lib.hid ((HK9.out.setNew (k := w.heap.size + 1 + 1) (by omega) (by have := HBW.out; omega) 0 (.string s2)).setNew (k := w.heap.size + 1 + 1) (by omega) (by have := HBW.out; omega) 1 (.int .i64 x2))
      go_wp2_with fail
      exact bodyPost_ret (results_ct rfl _ _ (w.heap.size + 1 + 1) 50 #[.string s2, .int .i64 x2] (0, 0) _ rfl HRf.out Try.underlying50 rfl (by kernel_rfl)) rfl ⟨p2, x2, by rw [HS2.out]; rfl, HLE.out, HWf.out, HKf.out⟩
  have o0 : W3.cell? ⟨w.heap.size + 1, 0, none⟩ = some (.int .i64 q) := (blk_cell HO.out 0).trans rfl
  have o1 : W3.cell? ⟨w.heap.size + 1, 1, none⟩ = some (.int .u64 n) := (blk_cell HO.out 1).trans rfl
  have o2 : W3.cell? ⟨w.heap.size + 1, 2, none⟩ = some (.int .i64 m) := (blk_cell HO.out 2).trans rfl
  have x0 : W3.cell? ⟨w.heap.size, 0, none⟩ = some (.string s) := (blk_cell HX.out 0).trans rfl
  have x1_ : W3.cell? ⟨w.heap.size, 1, none⟩ = some (.int .i64 x1) := (blk_cell HX.out 1).trans rfl
  go_wp2_with fail
  clear o0 o1 o2 x0 x1_
  refine (HREF.out _).mono ?_
  rintro y w4 ⟨rfl, hb4⟩
  have HW4 := Lib.hid (HW3.out.later hb4)
  have HK4 := Lib.hid (HK3.out.below (by have := HW3.out.lt; have := HBG.out; omega) hb4)
  have HX4 := Lib.hid ((hb4.block _ (blk_lt HX.out)).trans HX.out)
  have HO4 := Lib.hid ((hb4.block _ (blk_lt HO.out)).trans HO.out)
  have HR4 := Lib.hid ((hb4.block _ (blk_lt HRz.out)).trans HRz.out)
  clear hb4 HX HO HRz HW3 HK3
  go_wp2_with fail
  have hy5 : (w4.alloc (.cells #[.string s2, .int .i64 x2] 50)).heap[w4.heap.size]? = some (.cells #[.string s2, .int .i64 x2] 50 (0, 0)) := by simpa using heap_alloc_new w4 (.cells #[.string s2, .int .i64 x2] 50)
  have HY5 := Lib.hid hy5
  have HX5 := Lib.hid ((heap_alloc_old w4 (.cells #[.string s2, .int .i64 x2] 50) (blk_lt HX4.out)).trans HX4.out)
  have HO5 := Lib.hid ((heap_alloc_old w4 (.cells #[.string s2, .int .i64 x2] 50) (blk_lt HO4.out)).trans HO4.out)
  have HR5 := Lib.hid ((heap_alloc_old w4 (.cells #[.string s2, .int .i64 x2] 50) (blk_lt HR4.out)).trans HR4.out)
  have HW5 := Lib.hid (HW4.out.alloc (.cells #[.string s2, .int .i64 x2] 50))
  have HK5 := Lib.hid (HK4.out.below (by have := HW4.out.lt; have := HBG.out; omega) (below_alloc (Below.refl _ _) (.cells #[.string s2, .int .i64 x2] 50)))
  have HNX := Lib.hid (show w4.heap.size ≠ w.heap.size by have := blk_lt HX4.out; omega)
  have HNY := Lib.hid (show w4.heap.size ≠ g by have := HW4.out.lt; omega)
  clear hy5 HX4 HO4 HR4 HW4 HK4
  generalize w4.alloc (.cells #[.string s2, .int .i64 x2] 50) = w5 at *
  generalize w4.heap.size = yb at *
  have y0 : w5.cell? ⟨yb, 0, none⟩ = some (.string s2) := (blk_cell HY5.out 0).trans rfl
  have y1 : w5.cell? ⟨yb, 1, none⟩ = some (.int .i64 x2) := (blk_cell HY5.out 1).trans rfl
  have o1 : w5.cell? ⟨w.heap.size + 1, 1, none⟩ = some (.int .u64 n) := (blk_cell HO5.out 1).trans rfl
  have o2 : w5.cell? ⟨w.heap.size + 1, 2, none⟩ = some (.int .i64 m) := (blk_cell HO5.out 2).trans rfl
  go_region_law (first | (go_simp; go_at_call 16; refine (HRD.out _ HW5.out.drew).mono ?_; rintro y w6 ⟨v6, rfl, hv6, hw6, hk6⟩; have hcvt := own_string (P := Try.prog) Try.underlying22 Try.underlying5 Try.underlying9 (Kd.own_of_R hv6); rw [HT.out] at hcvt; have hv7 := Kd.R_far (Kd.R_far (Kd.R_bound hv6) (p := ⟨w.heap.size, 0, none⟩) (fun k hk => by have h1 : w5.heap.size ≤ k := hk.2.1; have h2 := blk_lt HX5.out; show k ≠ w.heap.size; omega) (.string s2)) (p := ⟨w.heap.size, 1, none⟩) (fun k hk => by have h1 : w5.heap.size ≤ k := hk.2.1; have h2 := blk_lt HX5.out; show k ≠ w.heap.size; omega) (.int .i64 x2); have hcvt2 := own_string (P := Try.prog) Try.underlying22 Try.underlying5 Try.underlying9 (Kd.own_of_R hv7); rw [HT.out] at hcvt2; obtain ⟨A6, c6, rfl⟩ := Kd.R_slice hv6; have HW6 := Lib.hid hw6; have HK6 := Lib.hid (HK5.out.drew.trans hk6); have hy6 := RKeep.blk hk6 HY5.out HNY.out; have ho6 := RKeep.blk hk6 HO5.out (by have := HLT.out; omega); have hx6 := RKeep.blk hk6 HX5.out (by have := HLT.out; omega); have HX6 := Lib.hid hx6; have HR6 := Lib.hid (RKeep.blk hk6 HR5.out (by have := HLT.out; omega)); have z0 := (blk_cell hy6 0).trans rfl; have z1 := (blk_cell hy6 1).trans rfl; have u1 := (blk_cell ho6 1).trans rfl; have u2 := (blk_cell ho6 2).trans rfl; have e0 := (blk_cell hx6 0).trans rfl; have e1 := (blk_cell hx6 1).trans rfl; have e2 := blk_frozen hx6 0; have e3 := blk_frozen hx6 1; clear hv6 hv7; clear hw6 hk6 hy6 ho6 hx6))
  all_goals
    have HXt := Lib.hid (blk_set (blk_set HX6.out 0 (.string s2)) 1 (.int .i64 x2))
    have HWt := Lib.hid ((HW6.out.setNew (k := w.heap.size) HLT.out 0 (.string s2)).setNew (k := w.heap.size) HLT.out 1 (.int .i64 x2))
    have HKt := Lib.hid ((HK6.out.setNew (k := w.heap.size) (Nat.le_refl _) HBW.out 0 (.string s2)).setNew (k := w.heap.size) (Nat.le_refl _) HBW.out 1 (.int .i64 x2))
    have HRt := Lib.hid ((Below.heap_setCell _ ⟨w.heap.size, 1, none⟩ (.int .i64 x2) (w.heap.size + 1 + 1) (by simp; omega)).trans ((Below.heap_setCell _ ⟨w.heap.size, 0, none⟩ (.string s2) (w.heap.size + 1 + 1) (by simp; omega)).trans HR6.out))
    go_wp2_with fail
    go_meet
    exact ⟨rfl, Lib.hid HXt.out, Lib.hid HWt.out, Lib.hid HKt.out, Lib.hid HRt.out⟩
set_option maxHeartbeats 8000000 in
set_option maxRecDepth 100000 in
theorem reads_text {w : World} {B g : Nat} {bs : List Int} {p : Nat} {x1 : Int} (h : IsR w B g bs (p : Int) x1) (hb : ∀ y ∈ bs, 0 ≤ y ∧ y < 256) (hp : p ≤ bs.length) (hl : bs.length ≤ 1000) (q n m : Int) (A' : Option Addr) (nn c' : Nat) (hm : m ≤ 9223372036854775807)
    (r7 : Int) (hr7 : Go.bits .and .i64 q 7 = r7) (hr5 : Int.tmod r7 5 = 3) :
    Calls Try.prog 27 #[.pointer (some ⟨g, 0, none⟩), .agg #[.string (strOfNums (bs.drop p)), .int .i64 x1], .agg #[.int .i64 q, .int .u64 n, .int .i64 m, .slice A' nn c']] w (ReadsPost bs B g w) := by
  have HBG := Lib.hid h.1
  have HLT := Lib.hid h.lt
  have HBW := Lib.hid (show B ≤ w.heap.size by have := h.1; have := h.lt; omega)
  have HW := Lib.hid h
  have HBY := Lib.hid hb
  have HPL := Lib.hid hp
  have HL := Lib.hid (show bs.length ≤ 100000000 by omega)
  have href := fun w => rwords_at bs p hp x1 m (by omega) hb w hm
  have hrd := fun (w : World) hw => ctextr_calls (w := w) (B := B) (g := g) (p := p) (x := x1) hw hb hp HL.out m hm
  have hle := textR_le hp x1 m
  obtain ⟨⟨ys, p2, x2⟩, hr⟩ : ∃ r, textR bs p x1 m = r := ⟨_, rfl⟩
  rw [hr] at href hrd hle
  simp only at href hrd hle
  obtain ⟨v, hv⟩ : ∃ v, strOfNums ys = v := ⟨_, rfl⟩
  rw [hv] at href
  have HT := Lib.hid hv
  have HREF := Lib.hid href
  have HRD := Lib.hid hrd
  have HLE := Lib.hid hle
  clear href hrd hle hr hv
  obtain ⟨s, hs⟩ : ∃ s, strOfNums (bs.drop p) = s := ⟨_, rfl⟩
  obtain ⟨s2, hs2⟩ : ∃ s2, strOfNums (bs.drop p2) = s2 := ⟨_, rfl⟩
  rw [hs, hs2] at HREF
  rw [hs]
  have HS2 := Lib.hid hs2
  clear hs hs2 h hb hp hl hm
  go_enter Try.func27, Try.ntmps27
  go_upto_block 0 with (fail)
  generalize hW3 : World.alloc _ _ = W3
  have hkx : W3.heap[w.heap.size]? = some (.cells #[.string s, .int .i64 x1] 50 (0, 0)) := by rw [← hW3]; exact (heap_alloc_old _ _ (by simp; omega)).trans (heap_alloc2_old _ _ _)
  have hko : W3.heap[w.heap.size + 1]? = some (.cells #[.int .i64 q, .int .u64 n, .int .i64 m, .slice A' nn c'] 40 (0, 0)) := by rw [← hW3]; exact (heap_alloc_old _ _ (by simp)).trans (heap_alloc2_new _ _ _)
  have hkr : W3.heap[w.heap.size + 1 + 1]? = some (.cells #[.string ⟨#[]⟩, .int .i64 0] 50 (0, 0)) := by rw [← hW3]; simpa using heap_alloc_new ((w.alloc (.cells #[.string s, .int .i64 x1] 50)).alloc (.cells #[.int .i64 q, .int .u64 n, .int .i64 m, .slice A' nn c'] 40)) (.cells #[.string ⟨#[]⟩, .int .i64 0] 50)
  have HW3 := Lib.hid (show IsR W3 B g bs (p : Int) x1 by rw [← hW3]; exact ((HW.out.alloc _).alloc _).alloc _)
  have HK3 := Lib.hid (show RKeep w W3 B g by rw [← hW3]; exact (RKeep.refl w B g).below HBW.out (below_alloc (below_alloc (below_alloc (Below.refl _ _) _) _) _))
  have HX := Lib.hid hkx
  have HO := Lib.hid hko
  have HRz := Lib.hid hkr
  clear hkx hko hkr hW3
  go_cut [8] (fun s8 wx => s8 = .bool true ∧ Hid (wx.heap[w.heap.size]? = some (.cells #[.string s2, .int .i64 x2] 50 (0, 0))) ∧ Hid (IsR wx B g bs (p2 : Int) x2) ∧ Hid (RKeep w wx B g) ∧ Hid (wx.heap[w.heap.size + 1 + 1]? = some (.cells #[.string ⟨#[]⟩, .int .i64 0] 50 (0, 0))))
  case rest =>
    obtain ⟨rfl, HXt, HWt, HKt, HRt⟩ := hcut
    clear HX HO HRz HW3 HK3
    have x0 : wc.cell? ⟨w.heap.size, 0, none⟩ = some (.string s2) := (blk_cell HXt.out 0).trans rfl
    have x1_ : wc.cell? ⟨w.heap.size, 1, none⟩ = some (.int .i64 x2) := (blk_cell HXt.out 1).trans rfl
    have r0 : wc.cell? ⟨w.heap.size + 1 + 1, 0, none⟩ = some (.string ⟨#[]⟩) := (blk_cell HRt.out 0).trans rfl
    have r1 : wc.cell? ⟨w.heap.size + 1 + 1, 1, none⟩ = some (.int .i64 0) := (blk_cell HRt.out 1).trans rfl
    have r2 := blk_frozen HRt.out 0
    have r3 := blk_frozen HRt.out 1
    go_wp2_with fail
    have hne := Lib.hid (show w.heap.size ≠ w.heap.size + 1 + 1 by omega)
    have HALL := Lib.hid (show ∀ (w9 : World) (nd : Nat), w9 = wc.drew.drewN nd → Hid (IsR w9 B g bs (p2 : Int) x2) ∧ Hid (RKeep w w9 B g) ∧ Hid (w9.heap[w.heap.size + 1 + 1]? = some (.cells #[.string ⟨#[]⟩, .int .i64 0] 50 (0, 0))) ∧ w9.cell? ⟨w.heap.size, 0, none⟩ = some (.string s2) ∧ w9.cell? ⟨w.heap.size, 1, none⟩ = some (.int .i64 x2) ∧ w9.cell? ⟨w.heap.size + 1 + 1, 0, none⟩ = some (.string ⟨#[]⟩) ∧ w9.cell? ⟨w.heap.size + 1 + 1, 1, none⟩ = some (.int .i64 0) ∧ w9.frozen? ⟨w.heap.size + 1 + 1, 0, none⟩ = false ∧ w9.frozen? ⟨w.heap.size + 1 + 1, 1, none⟩ = false from by
      rintro w9 nd rfl
      exact ⟨Lib.hid (HWt.out.drew.drewN nd), Lib.hid (HKt.out.drew.drewN nd), Lib.hid HRt.out, x0, x1_, r0, r1, r2, r3⟩)
    go_region_held3 (fun w' => w'.cell? ⟨w.heap.size, 0, none⟩ = some (.string s2) ∧ w'.cell? ⟨w.heap.size, 1, none⟩ = some (.int .i64 x2)) (first | exact ⟨x0, x1_⟩ | exact ⟨x9, x9_⟩ | exact ⟨far_cell (far_cell x9 hne.out _ _) hne.out _ _, far_cell (far_cell x9_ hne.out _ _) hne.out _ _⟩) (first | (go_at_call 11; refine (cerr_calls HWt.out.drew).mono ?_; rintro y w8 ⟨rfl, rfl⟩) | (go_at_call 12; refine (left_at HWt.out.drew HLE.out HL.out HS2.out).mono ?_; rintro y w9 ⟨rfl, nd, hn⟩; obtain ⟨HW9, HK9, HR9, x9, x9_, q0, q1, q2, q3⟩ := HALL.out w9 nd hn; clear hn))
    all_goals
      have HRf := Lib.hid (blk_set (blk_set HR9.out 0 (.string s2)) 1 (.int .i64 x2))
      have HWf := Lib.hid ((HW9.out.setNew (k := w.heap.size + 1 + 1) (by have := HLT.out; omega) 0 (.string s2)).setNew (k := w.heap.size + 1 + 1) (by have := HLT.out; omega) 1 (.int .i64 x2))
      have HKf := Lib.hid ((HK9.out.setNew (k := w.heap.size + 1 + 1) (by omega) (by have := HBW.out; omega) 0 (.string s2)).setNew (k := w.heap.size + 1 + 1) (by omega) (by have := HBW.out; omega) 1 (.int .i64 x2))
      go_wp2_with fail
      exact bodyPost_ret (results_ct rfl _ _ (w.heap.size + 1 + 1) 50 #[.string s2, .int .i64 x2] (0, 0) _ rfl HRf.out Try.underlying50 rfl (by kernel_rfl)) rfl ⟨p2, x2, by rw [HS2.out]; rfl, HLE.out, HWf.out, HKf.out⟩
  have o0 : W3.cell? ⟨w.heap.size + 1, 0, none⟩ = some (.int .i64 q) := (blk_cell HO.out 0).trans rfl
  have o1 : W3.cell? ⟨w.heap.size + 1, 1, none⟩ = some (.int .u64 n) := (blk_cell HO.out 1).trans rfl
  have o2 : W3.cell? ⟨w.heap.size + 1, 2, none⟩ = some (.int .i64 m) := (blk_cell HO.out 2).trans rfl
  have x0 : W3.cell? ⟨w.heap.size, 0, none⟩ = some (.string s) := (blk_cell HX.out 0).trans rfl
  have x1_ : W3.cell? ⟨w.heap.size, 1, none⟩ = some (.int .i64 x1) := (blk_cell HX.out 1).trans rfl
  go_wp2_with fail
  clear o0 o1 o2 x0 x1_
  refine (HREF.out _).mono ?_
  rintro y w4 ⟨rfl, hb4⟩
  have HW4 := Lib.hid (HW3.out.later hb4)
  have HK4 := Lib.hid (HK3.out.below (by have := HW3.out.lt; have := HBG.out; omega) hb4)
  have HX4 := Lib.hid ((hb4.block _ (blk_lt HX.out)).trans HX.out)
  have HO4 := Lib.hid ((hb4.block _ (blk_lt HO.out)).trans HO.out)
  have HR4 := Lib.hid ((hb4.block _ (blk_lt HRz.out)).trans HRz.out)
  clear hb4 HX HO HRz HW3 HK3
  go_wp2_with fail
  have hy5 : (w4.alloc (.cells #[.string s2, .int .i64 x2] 50)).heap[w4.heap.size]? = some (.cells #[.string s2, .int .i64 x2] 50 (0, 0)) := by simpa using heap_alloc_new w4 (.cells #[.string s2, .int .i64 x2] 50)
  have HY5 := Lib.hid hy5
  have HX5 := Lib.hid ((heap_alloc_old w4 (.cells #[.string s2, .int .i64 x2] 50) (blk_lt HX4.out)).trans HX4.out)
  have HO5 := Lib.hid ((heap_alloc_old w4 (.cells #[.string s2, .int .i64 x2] 50) (blk_lt HO4.out)).trans HO4.out)
  have HR5 := Lib.hid ((heap_alloc_old w4 (.cells #[.string s2, .int .i64 x2] 50) (blk_lt HR4.out)).trans HR4.out)
  have HW5 := Lib.hid (HW4.out.alloc (.cells #[.string s2, .int .i64 x2] 50))
  have HK5 := Lib.hid (HK4.out.below (by have := HW4.out.lt; have := HBG.out; omega) (below_alloc (Below.refl _ _) (.cells #[.string s2, .int .i64 x2] 50)))
  have HNX := Lib.hid (show w4.heap.size ≠ w.heap.size by have := blk_lt HX4.out; omega)
  have HNY := Lib.hid (show w4.heap.size ≠ g by have := HW4.out.lt; omega)
  clear hy5 HX4 HO4 HR4 HW4 HK4
  generalize w4.alloc (.cells #[.string s2, .int .i64 x2] 50) = w5 at *
  generalize w4.heap.size = yb at *
  have y0 : w5.cell? ⟨yb, 0, none⟩ = some (.string s2) := (blk_cell HY5.out 0).trans rfl
  have y1 : w5.cell? ⟨yb, 1, none⟩ = some (.int .i64 x2) := (blk_cell HY5.out 1).trans rfl
  have o1 : w5.cell? ⟨w.heap.size + 1, 1, none⟩ = some (.int .u64 n) := (blk_cell HO5.out 1).trans rfl
  have o2 : w5.cell? ⟨w.heap.size + 1, 2, none⟩ = some (.int .i64 m) := (blk_cell HO5.out 2).trans rfl
  go_region_law (first | (go_simp; go_at_call 25; refine (HRD.out _ HW5.out.drew).mono ?_; rintro y w6 ⟨v6, rfl, hv6, hw6, hk6⟩; have hcvt := own_string (P := Try.prog) Try.underlying22 Try.underlying5 Try.underlying9 (Kd.own_of_R hv6); rw [HT.out] at hcvt; have hv7 := Kd.R_far (Kd.R_far (Kd.R_bound hv6) (p := ⟨w.heap.size, 0, none⟩) (fun k hk => by have h1 : w5.heap.size ≤ k := hk.2.1; have h2 := blk_lt HX5.out; show k ≠ w.heap.size; omega) (.string s2)) (p := ⟨w.heap.size, 1, none⟩) (fun k hk => by have h1 : w5.heap.size ≤ k := hk.2.1; have h2 := blk_lt HX5.out; show k ≠ w.heap.size; omega) (.int .i64 x2); have hcvt2 := own_string (P := Try.prog) Try.underlying22 Try.underlying5 Try.underlying9 (Kd.own_of_R hv7); rw [HT.out] at hcvt2; obtain ⟨A6, c6, rfl⟩ := Kd.R_slice hv6; have HW6 := Lib.hid hw6; have HK6 := Lib.hid (HK5.out.drew.trans hk6); have hy6 := RKeep.blk hk6 HY5.out HNY.out; have ho6 := RKeep.blk hk6 HO5.out (by have := HLT.out; omega); have hx6 := RKeep.blk hk6 HX5.out (by have := HLT.out; omega); have HX6 := Lib.hid hx6; have HR6 := Lib.hid (RKeep.blk hk6 HR5.out (by have := HLT.out; omega)); have z0 := (blk_cell hy6 0).trans rfl; have z1 := (blk_cell hy6 1).trans rfl; have u1 := (blk_cell ho6 1).trans rfl; have u2 := (blk_cell ho6 2).trans rfl; have e0 := (blk_cell hx6 0).trans rfl; have e1 := (blk_cell hx6 1).trans rfl; have e2 := blk_frozen hx6 0; have e3 := blk_frozen hx6 1; clear hv6 hv7; clear hw6 hk6 hy6 ho6 hx6))
  all_goals
    have HXt := Lib.hid (blk_set (blk_set HX6.out 0 (.string s2)) 1 (.int .i64 x2))
    have HWt := Lib.hid ((HW6.out.setNew (k := w.heap.size) HLT.out 0 (.string s2)).setNew (k := w.heap.size) HLT.out 1 (.int .i64 x2))
    have HKt := Lib.hid ((HK6.out.setNew (k := w.heap.size) (Nat.le_refl _) HBW.out 0 (.string s2)).setNew (k := w.heap.size) (Nat.le_refl _) HBW.out 1 (.int .i64 x2))
    have HRt := Lib.hid ((Below.heap_setCell _ ⟨w.heap.size, 1, none⟩ (.int .i64 x2) (w.heap.size + 1 + 1) (by simp; omega)).trans ((Below.heap_setCell _ ⟨w.heap.size, 0, none⟩ (.string s2) (w.heap.size + 1 + 1) (by simp; omega)).trans HR6.out))
    go_wp2_with fail
    go_meet
    exact ⟨rfl, Lib.hid HXt.out, Lib.hid HWt.out, Lib.hid HKt.out, Lib.hid HRt.out⟩
set_option maxHeartbeats 8000000 in
set_option maxRecDepth 100000 in
theorem reads_none {w : World} {B g : Nat} {bs : List Int} {p : Nat} {x1 : Int} (h : IsR w B g bs (p : Int) x1) (hb : ∀ y ∈ bs, 0 ≤ y ∧ y < 256) (hp : p ≤ bs.length) (hl : bs.length ≤ 1000) (q n m : Int) (A' : Option Addr) (nn c' : Nat) (hm : m ≤ 9223372036854775807)
    (r7 r : Int) (hr7 : Go.bits .and .i64 q 7 = r7) (hr5 : Int.tmod r7 5 = r) (b0 : (r == 0) = false) (b1 : (r == 1) = false) (b2 : (r == 2) = false) (b3 : (r == 3) = false) (b4 : (r == 4) = false) :
    Calls Try.prog 27 #[.pointer (some ⟨g, 0, none⟩), .agg #[.string (strOfNums (bs.drop p)), .int .i64 x1], .agg #[.int .i64 q, .int .u64 n, .int .i64 m, .slice A' nn c']] w (ReadsPost bs B g w) := by
  have HBG := Lib.hid h.1
  have HLT := Lib.hid h.lt
  have HBW := Lib.hid (show B ≤ w.heap.size by have := h.1; have := h.lt; omega)
  have HW := Lib.hid h
  have HLE := Lib.hid hp
  have HL := Lib.hid (show bs.length ≤ 100000000 by omega)
  obtain ⟨s2, hs2⟩ : ∃ s, strOfNums (bs.drop p) = s := ⟨_, rfl⟩
  rw [hs2]
  have HS2 := Lib.hid hs2
  clear hs2 h hb hp hl hm
  obtain ⟨x2, hx2⟩ : ∃ x2, x1 = x2 := ⟨_, rfl⟩
  subst hx2
  obtain ⟨s, hss⟩ : ∃ s, s2 = s := ⟨_, rfl⟩
  subst hss
  go_enter Try.func27, Try.ntmps27
  go_wp2_with fail
  generalize hW3 : World.alloc _ _ = W3
  have hkx : W3.heap[w.heap.size]? = some (.cells #[.string s2, .int .i64 x1] 50 (0, 0)) := by rw [← hW3]; exact (heap_alloc_old _ _ (by simp; omega)).trans (heap_alloc2_old _ _ _)
  have hko : W3.heap[w.heap.size + 1]? = some (.cells #[.int .i64 q, .int .u64 n, .int .i64 m, .slice A' nn c'] 40 (0, 0)) := by rw [← hW3]; exact (heap_alloc_old _ _ (by simp)).trans (heap_alloc2_new _ _ _)
  have hkr : W3.heap[w.heap.size + 1 + 1]? = some (.cells #[.string ⟨#[]⟩, .int .i64 0] 50 (0, 0)) := by rw [← hW3]; simpa using heap_alloc_new ((w.alloc (.cells #[.string s2, .int .i64 x1] 50)).alloc (.cells #[.int .i64 q, .int .u64 n, .int .i64 m, .slice A' nn c'] 40)) (.cells #[.string ⟨#[]⟩, .int .i64 0] 50)
  have HW3 := Lib.hid (show IsR W3 B g bs (p : Int) x1 by rw [← hW3]; exact ((HW.out.alloc _).alloc _).alloc _)
  have HK3 := Lib.hid (show RKeep w W3 B g by rw [← hW3]; exact (RKeep.refl w B g).below HBW.out (below_alloc (below_alloc (below_alloc (Below.refl _ _) _) _) _))
  have HX := Lib.hid hkx
  have HO := Lib.hid hko
  have HRz := Lib.hid hkr
  clear hkx hko hkr hW3
  have HXt := HX
  have HRt := HRz
  have HWt := HW3
  have HKt := HK3
  clear HX HO HRz HW3 HK3
  have x0 : W3.cell? ⟨w.heap.size, 0, none⟩ = some (.string s2) := (blk_cell HXt.out 0).trans rfl
  have x1_ : W3.cell? ⟨w.heap.size, 1, none⟩ = some (.int .i64 x1) := (blk_cell HXt.out 1).trans rfl
  have r0 : W3.cell? ⟨w.heap.size + 1 + 1, 0, none⟩ = some (.string ⟨#[]⟩) := (blk_cell HRt.out 0).trans rfl
  have r1 : W3.cell? ⟨w.heap.size + 1 + 1, 1, none⟩ = some (.int .i64 0) := (blk_cell HRt.out 1).trans rfl
  have r2 := blk_frozen HRt.out 0
  have r3 := blk_frozen HRt.out 1
  go_wp2_with fail
  have hne := Lib.hid (show w.heap.size ≠ w.heap.size + 1 + 1 by omega)
  have HALL := Lib.hid (show ∀ (w9 : World) (nd : Nat), w9 = W3.drew.drewN nd → Hid (IsR w9 B g bs (p : Int) x1) ∧ Hid (RKeep w w9 B g) ∧ Hid (w9.heap[w.heap.size + 1 + 1]? = some (.cells #[.string ⟨#[]⟩, .int .i64 0] 50 (0, 0))) ∧ w9.cell? ⟨w.heap.size, 0, none⟩ = some (.string s2) ∧ w9.cell? ⟨w.heap.size, 1, none⟩ = some (.int .i64 x1) ∧ w9.cell? ⟨w.heap.size + 1 + 1, 0, none⟩ = some (.string ⟨#[]⟩) ∧ w9.cell? ⟨w.heap.size + 1 + 1, 1, none⟩ = some (.int .i64 0) ∧ w9.frozen? ⟨w.heap.size + 1 + 1, 0, none⟩ = false ∧ w9.frozen? ⟨w.heap.size + 1 + 1, 1, none⟩ = false from by
    rintro w9 nd rfl
    exact ⟨Lib.hid (HWt.out.drew.drewN nd), Lib.hid (HKt.out.drew.drewN nd), Lib.hid HRt.out, x0, x1_, r0, r1, r2, r3⟩)
  go_region_held3 (fun w' => w'.cell? ⟨w.heap.size, 0, none⟩ = some (.string s2) ∧ w'.cell? ⟨w.heap.size, 1, none⟩ = some (.int .i64 x1)) (first | exact ⟨x0, x1_⟩ | exact ⟨x9, x9_⟩ | exact ⟨far_cell (far_cell x9 hne.out _ _) hne.out _ _, far_cell (far_cell x9_ hne.out _ _) hne.out _ _⟩) (first | (go_at_call 11; refine (cerr_calls HWt.out.drew).mono ?_; rintro y w8 ⟨rfl, rfl⟩) | (go_at_call 12; refine (left_at HWt.out.drew HLE.out HL.out HS2.out).mono ?_; rintro y w9 ⟨rfl, nd, hn⟩; obtain ⟨HW9, HK9, HR9, x9, x9_, q0, q1, q2, q3⟩ := HALL.out w9 nd hn; clear hn))
  all_goals
    have HRf := Lib.hid (blk_set (blk_set HR9.out 0 (.string s2)) 1 (.int .i64 x1))
    have HWf := Lib.hid ((HW9.out.setNew (k := w.heap.size + 1 + 1) (by have := HLT.out; omega) 0 (.string s2)).setNew (k := w.heap.size + 1 + 1) (by have := HLT.out; omega) 1 (.int .i64 x1))
    have HKf := Lib.hid ((HK9.out.setNew (k := w.heap.size + 1 + 1) (by omega) (by have := HBW.out; omega) 0 (.string s2)).setNew (k := w.heap.size + 1 + 1) (by omega) (by have := HBW.out; omega) 1 (.int .i64 x1))
    go_wp2_with fail
    exact bodyPost_ret (results_ct rfl _ _ (w.heap.size + 1 + 1) 50 #[.string s2, .int .i64 x1] (0, 0) _ rfl HRf.out Try.underlying50 rfl (by kernel_rfl)) rfl ⟨p, x1, by rw [HS2.out]; rfl, HLE.out, HWf.out, HKf.out⟩
end Go.Proofs.Ytigmkbkmfhlimaa.Hand
