/- The law's 'reads', walked: a hash. -/
import Derived.Test.YtigmkbkmfhlimaaProg
import Derived.Below
import Derived.Deep.Draws
import Derived.Deep.AppendLies
import Derived.Maps.AppendAt
import Derived.OwnWalk
import Derived.Laws.BytesArg
import Derived.Laws.MakeOwn
import Derived.Laws.OwnMore
import Derived.Deep.OwnRows
import Derived.Tactics
import Derived.Lib.ConvBytes
import Derived.Laws.Slices
import Derived.WalkKit
import Derived.KernelRfl
import Derived.RowKit3
import Derived.Deep.LoopGhost
import Derived.Deep.QuietTactic
import Derived.BigQuiet
import Derived.WideLaws
import Derived.Deep.DeepCutAuto
import Derived.Deep.CutBlock
import Derived.Deep.RegionHeld3
import Derived.Laws.Rows
import Derived.Lib.AppendStr
import Derived.ArgAppend
import Derived.Laws.IdiomCopy
import Derived.OrdersHeld
import Derived.Laws.BitsLemmas
import Derived.RowKit
import Derived.StillTailTactics
import Derived.Test.YtigmkbkmfhlimaaWWords
import Derived.Test.YtigmkbkmfhlimaaWLast
import Derived.Test.YtigmkbkmfhlimaaWMore
import Derived.Lib.Hide
import Derived.LaidEql
import Derived.Outline
import Derived.Deep.RegionLaw
import Derived.Deep.RegionHeld3
import Derived.BigRegion
import Derived.Test.YtigmkbkmfhlimaaAwake
import Derived.Test.YtigmkbkmfhlimaaWriter
import Derived.Test.YtigmkbkmfhlimaaReader2
import Derived.Test.YtigmkbkmfhlimaaOpens
import Derived.Deep.DrawnRows
import Derived.Test.YtigmkbkmfhlimaaReads
namespace Go.Proofs.Ytigmkbkmfhlimaa.Hand
open Go Go.RowKit Go.Proofs.Ytigmkbkmfhlimaa.Plain Go.Proofs.Ytigmkbkmfhlimaa.PAll Go.Proofs.YtigmkbkmfhlimaaW.PrintWords Go.Proofs.YtigmkbkmfhlimaaW.PrintLast Go.Proofs.YtigmkbkmfhlimaaW.PrintMore
attribute [local go_sem] max2_int min2_int max_two min_two max_three min_three max_four min_four
set_option linter.unusedVariables false
set_option linter.unusedSimpArgs false
attribute [local go_sem ↓] Go.wp_at_zero Go.wp_at_succ
theorem C_of_whole {w : World} {b : Nat} {t : TypeId} {k : IntKind} {ys : List Int} (hb : w.heap[b]? = some (.cells (nums k ys).toArray t)) (hl : ys.length ≤ 9223372036854775807) : Kd.C (Kd.int k) w (some ⟨b, 0, none⟩) ys.length ys :=
  C_of_block (t := t) (fr := (0, 0)) (pre := []) (post := []) (by rw [List.nil_append, List.append_nil]; exact hb) rfl hl
set_option maxHeartbeats 8000000 in
set_option maxRecDepth 100000 in
theorem reads_hash32 {w : World} {B g : Nat} {bs : List Int} {p : Nat} {x1 : Int} (h : IsR w B g bs (p : Int) x1) (hb : ∀ y ∈ bs, 0 ≤ y ∧ y < 256) (hp : p ≤ bs.length) (hl : bs.length ≤ 1000) (q n m : Int) (A' : Option Addr) (nn c' : Nat) (hm : m ≤ 9223372036854775807) (hln : (takeR bs p x1 32).1.length = 32)
    (r7 : Int) (hr7 : Go.bits .and .i64 q 7 = r7) (hr5 : Int.tmod r7 5 = 4) :
    Calls Try.prog 27 #[.pointer (some ⟨g, 0, none⟩), .agg #[.string (strOfNums (bs.drop p)), .int .i64 x1], .agg #[.int .i64 q, .int .u64 n, .int .i64 m, .slice A' nn c']] w (ReadsPost bs B g w) := by
  have HBG := Lib.hid h.1
  have HLT := Lib.hid h.lt
  have HBW := Lib.hid (show B ≤ w.heap.size by have := h.1; have := h.lt; omega)
  have HW := Lib.hid h
  have HL := Lib.hid (show bs.length ≤ 100000000 by omega)
  have href := fun w => rtake_at bs p hp x1 32 (by omega) w
  have hrd := fun (w : World) hw => chash_calls (w := w) (B := B) (g := g) (p := p) (x := x1) hw hp HL.out
  have hle := takeR_le hp x1 32
  have hyb := takeR_bytes hb p x1 32
  unfold hashR at hrd
  obtain ⟨⟨ys, p2, x2⟩, hr⟩ : ∃ r, takeR bs p x1 32 = r := ⟨_, rfl⟩
  rw [hr] at href hrd hle hln hyb
  simp only at href hrd hle hln hyb
  simp only [if_pos hln] at hrd
  have HRL := Lib.hid hln
  have hT32 : (strOfNums ys).toList.isEmpty = false := by rw [Lib.toList_data, strOfNums_data]; cases ys with | nil => simp at hln | cons a l => rfl
  obtain ⟨v, hv⟩ : ∃ v, strOfNums ys = v := ⟨_, rfl⟩
  rw [hv] at href hT32
  have HT := Lib.hid hv
  have hT33 : (v.toList == ([] : List UInt8)) = false := by cases h9 : v.toList with | nil => rw [h9] at hT32; simp at hT32 | cons a l => rfl
  have hT34 : (v.toList = []) = False := eq_false (fun h9 => by rw [h9] at hT32; simp at hT32)
  obtain ⟨rs, hrs⟩ : ∃ rs, ys = rs := ⟨_, rfl⟩
  rw [hrs] at hrd HRL HT hyb
  clear hv
  have HREF := Lib.hid href
  have HRD := Lib.hid hrd
  have HLE := Lib.hid hle
  clear href hrd hle hr hyb hrs hln
  obtain ⟨s, hs⟩ : ∃ s, strOfNums (bs.drop p) = s := ⟨_, rfl⟩
  obtain ⟨s2, hs2⟩ : ∃ s2, strOfNums (bs.drop p2) = s2 := ⟨_, rfl⟩
  rw [hs, hs2] at HREF
  rw [hs]
  have HS2 := Lib.hid hs2
  clear hs hs2 h hb hp hl hm
  have HI := Lib.hid (show (Try.prog.info? 74).map (·.size) = some (nums .u8 rs).toArray.size by
    have : (nums .u8 rs).toArray.size = 32 := by simp only [List.size_toArray, nums_length]; exact HRL.out
    rw [this]
    exact info_hash)
  go_enter Try.func27, Try.ntmps27
  go_upto_block 0 with (fail)
  generalize hW3 : World.alloc _ _ = W3
  have hkx : W3.heap[w.heap.size]? = some (.cells #[.string s, .int .i64 x1] 50 (0, 0)) := by rw [← hW3]; exact (heap_alloc_old _ _ (by simp; omega)).trans (heap_alloc2_old _ _ _)
  have hko : W3.heap[w.heap.size + 1]? = some (.cells #[.int .i64 q, .int .u64 n, .int .i64 m, .slice A' nn c'] 40 (0, 0)) := by rw [← hW3]; exact (heap_alloc_old _ _ (by simp)).trans (heap_alloc2_new _ _ _)
  have hkr : W3.heap[w.heap.size + 1 + 1]? = some (.cells #[.string ⟨#[]⟩, .int .i64 0] 50 (0, 0)) := by rw [← hW3]; simpa using heap_alloc_new ((w.alloc (.cells #[.string s, .int .i64 x1] 50)).alloc (.cells #[.int .i64 q, .int .u64 n, .int .i64 m, .slice A' nn c'] 40)) (.cells #[.string ⟨#[]⟩, .int .i64 0] 50)
  have HW3 := Lib.hid (show IsR W3 B g bs (p : Int) x1 by rw [← hW3]; exact ((HW.out.alloc _).alloc _).alloc _)
  have HK3 := Lib.hid (show RKeep w W3 B g by rw [← hW3]; exact (RKeep.refl w B g).below HBW.out (below_alloc (below_alloc (below_alloc (Below.refl _ _) _) _) _))
  have HX := Lib.hid hkx
  have HO := Lib.hid hko
  have HRz := Lib.hid hkr
  clear hkx hko hkr hW3
  go_cut [8] (fun s8 wx => s8 = .bool true ∧ Hid (wx.heap[w.heap.size]? = some (.cells #[.string s2, .int .i64 x2] 50 (0, 0))) ∧ Hid (IsR wx B g bs (p2 : Int) x2) ∧ Hid (RKeep w wx B g) ∧ Hid (wx.heap[w.heap.size + 1 + 1]? = some (.cells #[.string ⟨#[]⟩, .int .i64 0] 50 (0, 0))))
  case rest =>
    obtain ⟨rfl, HXt, HWt, HKt, HRt⟩ := hcut
    clear HX HO HRz HW3 HK3
    have x0 : wc.cell? ⟨w.heap.size, 0, none⟩ = some (.string s2) := (blk_cell HXt.out 0).trans rfl
    have x1_ : wc.cell? ⟨w.heap.size, 1, none⟩ = some (.int .i64 x2) := (blk_cell HXt.out 1).trans rfl
    have r0 : wc.cell? ⟨w.heap.size + 1 + 1, 0, none⟩ = some (.string ⟨#[]⟩) := (blk_cell HRt.out 0).trans rfl
    have r1 : wc.cell? ⟨w.heap.size + 1 + 1, 1, none⟩ = some (.int .i64 0) := (blk_cell HRt.out 1).trans rfl
    have r2 := blk_frozen HRt.out 0
    have r3 := blk_frozen HRt.out 1
    go_wp2_with fail
    have hne := Lib.hid (show w.heap.size ≠ w.heap.size + 1 + 1 by omega)
    have HALL := Lib.hid (show ∀ (w9 : World) (nd : Nat), w9 = wc.drew.drewN nd → Hid (IsR w9 B g bs (p2 : Int) x2) ∧ Hid (RKeep w w9 B g) ∧ Hid (w9.heap[w.heap.size + 1 + 1]? = some (.cells #[.string ⟨#[]⟩, .int .i64 0] 50 (0, 0))) ∧ w9.cell? ⟨w.heap.size, 0, none⟩ = some (.string s2) ∧ w9.cell? ⟨w.heap.size, 1, none⟩ = some (.int .i64 x2) ∧ w9.cell? ⟨w.heap.size + 1 + 1, 0, none⟩ = some (.string ⟨#[]⟩) ∧ w9.cell? ⟨w.heap.size + 1 + 1, 1, none⟩ = some (.int .i64 0) ∧ w9.frozen? ⟨w.heap.size + 1 + 1, 0, none⟩ = false ∧ w9.frozen? ⟨w.heap.size + 1 + 1, 1, none⟩ = false from by
      rintro w9 nd rfl
      exact ⟨Lib.hid (HWt.out.drew.drewN nd), Lib.hid (HKt.out.drew.drewN nd), Lib.hid HRt.out, x0, x1_, r0, r1, r2, r3⟩)
    go_region_held3 (fun w' => w'.cell? ⟨w.heap.size, 0, none⟩ = some (.string s2) ∧ w'.cell? ⟨w.heap.size, 1, none⟩ = some (.int .i64 x2)) (first | exact ⟨x0, x1_⟩ | exact ⟨x9, x9_⟩ | exact ⟨far_cell (far_cell x9 hne.out _ _) hne.out _ _, far_cell (far_cell x9_ hne.out _ _) hne.out _ _⟩) (first | (go_at_call 11; refine (cerr_calls HWt.out.drew).mono ?_; rintro y w8 ⟨rfl, rfl⟩) | (go_at_call 12; refine (left_at HWt.out.drew HLE.out HL.out HS2.out).mono ?_; rintro y w9 ⟨rfl, nd, hn⟩; obtain ⟨HW9, HK9, HR9, x9, x9_, q0, q1, q2, q3⟩ := HALL.out w9 nd hn; clear hn))
    all_goals
      have HRf := Lib.hid (blk_set (blk_set HR9.out 0 (.string s2)) 1 (.int .i64 x2))
      have HWf := Lib.hid ((HW9.out.setNew (k := w.heap.size + 1 + 1) (by have := HLT.out; omega) 0 (.string s2)).setNew (k := w.heap.size + 1 + 1) (by have := HLT.out; omega) 1 (.int .i64 x2))
      have HKf := Lib.hid ((HK9.out.setNew (k := w.heap.size + 1 + 1) (by omega) (by have := HBW.out; omega) 0 (.string s2)).setNew (k := w.heap.size + 1 + 1) (by omega) (by have := HBW.out; omega) 1 (.int .i64 x2))
      go_wp2_with fail
      exact bodyPost_ret (results_ct rfl _ _ (w.heap.size + 1 + 1) 50 #[.string s2, .int .i64 x2] (0, 0) _ rfl HRf.out Try.underlying50 rfl (by kernel_rfl)) rfl ⟨p2, x2, by rw [HS2.out]; rfl, HLE.out, HWf.out, HKf.out⟩
  have o0 : W3.cell? ⟨w.heap.size + 1, 0, none⟩ = some (.int .i64 q) := (blk_cell HO.out 0).trans rfl
  have o1 : W3.cell? ⟨w.heap.size + 1, 1, none⟩ = some (.int .u64 n) := (blk_cell HO.out 1).trans rfl
  have o2 : W3.cell? ⟨w.heap.size + 1, 2, none⟩ = some (.int .i64 m) := (blk_cell HO.out 2).trans rfl
  have x0 : W3.cell? ⟨w.heap.size, 0, none⟩ = some (.string s) := (blk_cell HX.out 0).trans rfl
  have x1_ : W3.cell? ⟨w.heap.size, 1, none⟩ = some (.int .i64 x1) := (blk_cell HX.out 1).trans rfl
  go_wp2_with fail
  clear o0 o1 o2 x0 x1_
  refine (HREF.out _).mono ?_
  rintro y w4 ⟨rfl, hb4⟩
  have HW4 := Lib.hid (HW3.out.later hb4)
  have HK4 := Lib.hid (HK3.out.below (by have := HW3.out.lt; have := HBG.out; omega) hb4)
  have HX4 := Lib.hid ((hb4.block _ (blk_lt HX.out)).trans HX.out)
  have HO4 := Lib.hid ((hb4.block _ (blk_lt HO.out)).trans HO.out)
  have HR4 := Lib.hid ((hb4.block _ (blk_lt HRz.out)).trans HRz.out)
  clear hb4 HX HO HRz HW3 HK3
  go_wp2_with fail
  have hy5 : (w4.alloc (.cells #[.string s2, .int .i64 x2] 50)).heap[w4.heap.size]? = some (.cells #[.string s2, .int .i64 x2] 50 (0, 0)) := by simpa using heap_alloc_new w4 (.cells #[.string s2, .int .i64 x2] 50)
  have HY5 := Lib.hid hy5
  have HX5 := Lib.hid ((heap_alloc_old w4 (.cells #[.string s2, .int .i64 x2] 50) (blk_lt HX4.out)).trans HX4.out)
  have HO5 := Lib.hid ((heap_alloc_old w4 (.cells #[.string s2, .int .i64 x2] 50) (blk_lt HO4.out)).trans HO4.out)
  have HR5 := Lib.hid ((heap_alloc_old w4 (.cells #[.string s2, .int .i64 x2] 50) (blk_lt HR4.out)).trans HR4.out)
  have HW5 := Lib.hid (HW4.out.alloc (.cells #[.string s2, .int .i64 x2] 50))
  have HK5 := Lib.hid (HK4.out.below (by have := HW4.out.lt; have := HBG.out; omega) (below_alloc (Below.refl _ _) (.cells #[.string s2, .int .i64 x2] 50)))
  have HNX := Lib.hid (show w4.heap.size ≠ w.heap.size by have := blk_lt HX4.out; omega)
  have HNY := Lib.hid (show w4.heap.size ≠ g by have := HW4.out.lt; omega)
  clear hy5 HX4 HO4 HR4 HW4 HK4
  generalize w4.alloc (.cells #[.string s2, .int .i64 x2] 50) = w5 at *
  generalize w4.heap.size = yb at *
  have y0 : w5.cell? ⟨yb, 0, none⟩ = some (.string s2) := (blk_cell HY5.out 0).trans rfl
  have y1 : w5.cell? ⟨yb, 1, none⟩ = some (.int .i64 x2) := (blk_cell HY5.out 1).trans rfl
  have o1 : w5.cell? ⟨w.heap.size + 1, 1, none⟩ = some (.int .u64 n) := (blk_cell HO5.out 1).trans rfl
  have o2 : w5.cell? ⟨w.heap.size + 1, 2, none⟩ = some (.int .i64 m) := (blk_cell HO5.out 2).trans rfl
  clear y0 y1 o1 o2
  refine (HRD.out _ HW5.out).mono ?_
  rintro y w6 ⟨rfl, hw6, hk6⟩
  have HW6 := Lib.hid hw6
  have HK6 := Lib.hid (HK5.out.trans hk6)
  have HY6 := Lib.hid (RKeep.blk hk6 HY5.out HNY.out)
  have HX6 := Lib.hid (RKeep.blk hk6 HX5.out (by have := HLT.out; omega))
  have HR6 := Lib.hid (RKeep.blk hk6 HR5.out (by have := HLT.out; omega))
  clear hw6 hk6 HX5 HO5 HR5 HW5 HK5 HY5
  unfold hashV
  have HTH := Lib.hid (show (w6.alloc (.cells (nums .u8 (List.replicate 32 0)).toArray 74)).there w6.heap.size 0 (nums .u8 rs).toArray.size by
    have h1 := there_of_block (w := w6.alloc (.cells (nums .u8 (List.replicate 32 0)).toArray 74)) (b := w6.heap.size) (old := nums .u8 (List.replicate 32 0)) (heap_alloc_new w6 _)
    have e : (nums .u8 rs).toArray.size = (nums .u8 (List.replicate 32 (0 : Int))).length := by simp only [List.size_toArray, nums_length, HRL.out, List.length_replicate]
    rw [e]
    exact h1)
  have HAL := Lib.hid (below_alloc (Below.refl w6.heap.size w6) (.cells (nums .u8 (List.replicate 32 0)).toArray 74))
  have HST := Lib.hid (below_setCells' (B := w6.heap.size) (Nat.le_refl _) (nums .u8 rs) 0 (w6.alloc (.cells (nums .u8 (List.replicate 32 0)).toArray 74)) HAL.out)
  have HHB := Lib.hid (heap_setCells_all (w := w6.alloc (.cells (nums .u8 (List.replicate 32 0)).toArray 74)) (b := w6.heap.size) (t := 74) (old := nums .u8 (List.replicate 32 0)) (vs := nums .u8 rs) (heap_alloc_new w6 _) (by simp only [nums_length, HRL.out, List.length_replicate]))
  go_wp2_with (refine wpList_store_mid rfl 74 (.tmp 19) (.tmp 98) rfl w6.heap.size 0 (nums .u8 rs).toArray rfl rfl ?hth HI.out (all_oneCell_toArray (nums_one _ _)) ?_; (case hth => exact HTH.out))
  generalize hW8 : World.setCells _ _ _ _ = w8
  have hw8 : ((w6.alloc (.cells (nums .u8 (List.replicate 32 0)).toArray 74)).setCells w6.heap.size 0 (nums .u8 rs)) = w8 := hW8
  clear hW8
  have HB8 := Lib.hid (show Below w6.heap.size w6 w8 by rw [← hw8]; exact HST.out)
  have HH8 := Lib.hid (show w8.heap[w6.heap.size]? = some (.cells (nums .u8 rs).toArray 74 (0, 0)) by rw [← hw8]; exact HHB.out)
  have HHX := Lib.hid (show w6.heap.size ≠ w.heap.size by have := blk_lt HX6.out; omega)
  clear HTH HAL HST HHB HI hw8
  have HY8 := Lib.hid ((HB8.out.block _ (blk_lt HY6.out)).trans HY6.out)
  have HX8 := Lib.hid ((HB8.out.block _ (blk_lt HX6.out)).trans HX6.out)
  have HR8 := Lib.hid ((HB8.out.block _ (blk_lt HR6.out)).trans HR6.out)
  have HW8 := Lib.hid (HW6.out.later HB8.out)
  have HK8 := Lib.hid (HK6.out.below (by have := HW6.out.lt; have := HBG.out; omega) HB8.out)
  clear HY6 HX6 HR6 HW6 HK6 HB8
  generalize w6.heap.size = hb at *
  have y0 : w8.cell? ⟨yb, 0, none⟩ = some (.string s2) := (blk_cell HY8.out 0).trans rfl
  have y1 : w8.cell? ⟨yb, 1, none⟩ = some (.int .i64 x2) := (blk_cell HY8.out 1).trans rfl
  have e0 : w8.cell? ⟨w.heap.size, 0, none⟩ = some (.string s) := (blk_cell HX8.out 0).trans rfl
  have e1 : w8.cell? ⟨w.heap.size, 1, none⟩ = some (.int .i64 x1) := (blk_cell HX8.out 1).trans rfl
  have e2 := blk_frozen HX8.out 0
  have e3 := blk_frozen HX8.out 1
  have HXt := Lib.hid (blk_set (blk_set HX8.out 0 (.string s2)) 1 (.int .i64 x2))
  have HWt := Lib.hid ((HW8.out.setNew (k := w.heap.size) HLT.out 0 (.string s2)).setNew (k := w.heap.size) HLT.out 1 (.int .i64 x2))
  have HKt := Lib.hid ((HK8.out.setNew (k := w.heap.size) (Nat.le_refl _) HBW.out 0 (.string s2)).setNew (k := w.heap.size) (Nat.le_refl _) HBW.out 1 (.int .i64 x2))
  have HRt := Lib.hid ((Below.heap_setCell _ ⟨w.heap.size, 1, none⟩ (.int .i64 x2) (w.heap.size + 1 + 1) (by simp; omega)).trans ((Below.heap_setCell _ ⟨w.heap.size, 0, none⟩ (.string s2) (w.heap.size + 1 + 1) (by simp; omega)).trans HR8.out))
  have HHt := Lib.hid ((Below.heap_setCell _ ⟨w.heap.size, 1, none⟩ (.int .i64 x2) hb HHX.out).trans ((Below.heap_setCell _ ⟨w.heap.size, 0, none⟩ (.string s2) hb HHX.out).trans HH8.out))
  have hcv8 := Kd.C_string (P := Try.prog) (c := 32) Try.underlying22 Try.underlying5 Try.underlying9 (Kd.C_drew (C_of_whole HH8.out (by rw [HRL.out]; decide)))
  have hcv9 := Kd.C_string (P := Try.prog) (c := 32) Try.underlying22 Try.underlying5 Try.underlying9 (Kd.C_drew (C_of_whole HHt.out (by rw [HRL.out]; decide)))
  rw [HRL.out, HT.out] at hcv8 hcv9
  go_region_law (fail)
  all_goals
    go_wp2_with fail
    go_meet
    exact ⟨rfl, Lib.hid HXt.out, Lib.hid HWt.out.drew, Lib.hid HKt.out.drew, Lib.hid HRt.out⟩
set_option maxHeartbeats 8000000 in
set_option maxRecDepth 100000 in
theorem reads_hash0 {w : World} {B g : Nat} {bs : List Int} {p : Nat} {x1 : Int} (h : IsR w B g bs (p : Int) x1) (hb : ∀ y ∈ bs, 0 ≤ y ∧ y < 256) (hp : p ≤ bs.length) (hl : bs.length ≤ 1000) (q n m : Int) (A' : Option Addr) (nn c' : Nat) (hm : m ≤ 9223372036854775807) (hln : (takeR bs p x1 32).1.length = 0)
    (r7 : Int) (hr7 : Go.bits .and .i64 q 7 = r7) (hr5 : Int.tmod r7 5 = 4) :
    Calls Try.prog 27 #[.pointer (some ⟨g, 0, none⟩), .agg #[.string (strOfNums (bs.drop p)), .int .i64 x1], .agg #[.int .i64 q, .int .u64 n, .int .i64 m, .slice A' nn c']] w (ReadsPost bs B g w) := by
  have HBG := Lib.hid h.1
  have HLT := Lib.hid h.lt
  have HBW := Lib.hid (show B ≤ w.heap.size by have := h.1; have := h.lt; omega)
  have HW := Lib.hid h
  have HL := Lib.hid (show bs.length ≤ 100000000 by omega)
  have href := fun w => rtake_at bs p hp x1 32 (by omega) w
  have hrd := fun (w : World) hw => chash_calls (w := w) (B := B) (g := g) (p := p) (x := x1) hw hp HL.out
  have hle := takeR_le hp x1 32
  have hyb := takeR_bytes hb p x1 32
  unfold hashR at hrd
  obtain ⟨⟨ys, p2, x2⟩, hr⟩ : ∃ r, takeR bs p x1 32 = r := ⟨_, rfl⟩
  rw [hr] at href hrd hle hln hyb
  simp only at href hrd hle hln hyb
  obtain rfl : ys = [] := List.eq_nil_of_length_eq_zero hln
  have e0 : strOfNums ([] : List Int) = (⟨#[]⟩ : ByteArray) := rfl
  rw [e0] at href
  have hif : (if ([] : List Int).length = 32 then ([] : List Int) else List.replicate 32 0) = List.replicate 32 0 := rfl
  rw [hif] at hrd
  obtain ⟨rs, hrs⟩ : ∃ rs : List Int, List.replicate 32 0 = rs := ⟨_, rfl⟩
  rw [hrs] at hrd
  have HRL := Lib.hid (show rs.length = 32 by rw [← hrs]; simp)
  obtain ⟨v, hv⟩ : ∃ v, strOfNums rs = v := ⟨_, rfl⟩
  have HT := Lib.hid hv
  have HRS := Lib.hid hrs
  have hmk : ∀ w : World, (Instr.makeSlice 22 (.int .i64 32) (.int .i64 32)).run Try.prog w = .ok (.slice (some ⟨w.heap.size, 0, none⟩) 32 32) (w.alloc (.cells (nums .u8 rs).toArray 5)) := fun _ => by rw [← hrs]; kernel_rfl
  have hkc : ∀ w : World, (convert 22 9 (.slice (some ⟨w.heap.size, 0, none⟩) 32 32)).run Try.prog (w.alloc (.cells (nums .u8 rs).toArray 5)) = .ok (.string v) (w.alloc (.cells (nums .u8 rs).toArray 5)) := fun w => by
    have h1 := Kd.C_string (P := Try.prog) (c := 32) Try.underlying22 Try.underlying5 Try.underlying9 (C_of_whole (heap_alloc_new w (.cells (nums .u8 rs).toArray 5)) (by rw [HRL.out]; decide))
    rw [HRL.out, HT.out] at h1
    exact h1
  clear hv e0 hif
  have HREF := Lib.hid href
  have HRD := Lib.hid hrd
  have HLE := Lib.hid hle
  clear href hrd hle hr hyb hrs hln
  obtain ⟨s, hs⟩ : ∃ s, strOfNums (bs.drop p) = s := ⟨_, rfl⟩
  obtain ⟨s2, hs2⟩ : ∃ s2, strOfNums (bs.drop p2) = s2 := ⟨_, rfl⟩
  rw [hs, hs2] at HREF
  rw [hs]
  have HS2 := Lib.hid hs2
  clear hs hs2 h hb hp hl hm
  have HI := Lib.hid (show (Try.prog.info? 74).map (·.size) = some (nums .u8 rs).toArray.size by
    have : (nums .u8 rs).toArray.size = 32 := by simp only [List.size_toArray, nums_length]; exact HRL.out
    rw [this]
    exact info_hash)
  go_enter Try.func27, Try.ntmps27
  go_upto_block 0 with (fail)
  generalize hW3 : World.alloc _ _ = W3
  have hkx : W3.heap[w.heap.size]? = some (.cells #[.string s, .int .i64 x1] 50 (0, 0)) := by rw [← hW3]; exact (heap_alloc_old _ _ (by simp; omega)).trans (heap_alloc2_old _ _ _)
  have hko : W3.heap[w.heap.size + 1]? = some (.cells #[.int .i64 q, .int .u64 n, .int .i64 m, .slice A' nn c'] 40 (0, 0)) := by rw [← hW3]; exact (heap_alloc_old _ _ (by simp)).trans (heap_alloc2_new _ _ _)
  have hkr : W3.heap[w.heap.size + 1 + 1]? = some (.cells #[.string ⟨#[]⟩, .int .i64 0] 50 (0, 0)) := by rw [← hW3]; simpa using heap_alloc_new ((w.alloc (.cells #[.string s, .int .i64 x1] 50)).alloc (.cells #[.int .i64 q, .int .u64 n, .int .i64 m, .slice A' nn c'] 40)) (.cells #[.string ⟨#[]⟩, .int .i64 0] 50)
  have HW3 := Lib.hid (show IsR W3 B g bs (p : Int) x1 by rw [← hW3]; exact ((HW.out.alloc _).alloc _).alloc _)
  have HK3 := Lib.hid (show RKeep w W3 B g by rw [← hW3]; exact (RKeep.refl w B g).below HBW.out (below_alloc (below_alloc (below_alloc (Below.refl _ _) _) _) _))
  have HX := Lib.hid hkx
  have HO := Lib.hid hko
  have HRz := Lib.hid hkr
  clear hkx hko hkr hW3
  go_cut [8] (fun s8 wx => s8 = .bool true ∧ Hid (wx.heap[w.heap.size]? = some (.cells #[.string s2, .int .i64 x2] 50 (0, 0))) ∧ Hid (IsR wx B g bs (p2 : Int) x2) ∧ Hid (RKeep w wx B g) ∧ Hid (wx.heap[w.heap.size + 1 + 1]? = some (.cells #[.string ⟨#[]⟩, .int .i64 0] 50 (0, 0))))
  case rest =>
    obtain ⟨rfl, HXt, HWt, HKt, HRt⟩ := hcut
    clear HX HO HRz HW3 HK3
    have x0 : wc.cell? ⟨w.heap.size, 0, none⟩ = some (.string s2) := (blk_cell HXt.out 0).trans rfl
    have x1_ : wc.cell? ⟨w.heap.size, 1, none⟩ = some (.int .i64 x2) := (blk_cell HXt.out 1).trans rfl
    have r0 : wc.cell? ⟨w.heap.size + 1 + 1, 0, none⟩ = some (.string ⟨#[]⟩) := (blk_cell HRt.out 0).trans rfl
    have r1 : wc.cell? ⟨w.heap.size + 1 + 1, 1, none⟩ = some (.int .i64 0) := (blk_cell HRt.out 1).trans rfl
    have r2 := blk_frozen HRt.out 0
    have r3 := blk_frozen HRt.out 1
    go_wp2_with fail
    have hne := Lib.hid (show w.heap.size ≠ w.heap.size + 1 + 1 by omega)
    have HALL := Lib.hid (show ∀ (w9 : World) (nd : Nat), w9 = wc.drew.drewN nd → Hid (IsR w9 B g bs (p2 : Int) x2) ∧ Hid (RKeep w w9 B g) ∧ Hid (w9.heap[w.heap.size + 1 + 1]? = some (.cells #[.string ⟨#[]⟩, .int .i64 0] 50 (0, 0))) ∧ w9.cell? ⟨w.heap.size, 0, none⟩ = some (.string s2) ∧ w9.cell? ⟨w.heap.size, 1, none⟩ = some (.int .i64 x2) ∧ w9.cell? ⟨w.heap.size + 1 + 1, 0, none⟩ = some (.string ⟨#[]⟩) ∧ w9.cell? ⟨w.heap.size + 1 + 1, 1, none⟩ = some (.int .i64 0) ∧ w9.frozen? ⟨w.heap.size + 1 + 1, 0, none⟩ = false ∧ w9.frozen? ⟨w.heap.size + 1 + 1, 1, none⟩ = false from by
      rintro w9 nd rfl
      exact ⟨Lib.hid (HWt.out.drew.drewN nd), Lib.hid (HKt.out.drew.drewN nd), Lib.hid HRt.out, x0, x1_, r0, r1, r2, r3⟩)
    go_region_held3 (fun w' => w'.cell? ⟨w.heap.size, 0, none⟩ = some (.string s2) ∧ w'.cell? ⟨w.heap.size, 1, none⟩ = some (.int .i64 x2)) (first | exact ⟨x0, x1_⟩ | exact ⟨x9, x9_⟩ | exact ⟨far_cell (far_cell x9 hne.out _ _) hne.out _ _, far_cell (far_cell x9_ hne.out _ _) hne.out _ _⟩) (first | (go_at_call 11; refine (cerr_calls HWt.out.drew).mono ?_; rintro y w8 ⟨rfl, rfl⟩) | (go_at_call 12; refine (left_at HWt.out.drew HLE.out HL.out HS2.out).mono ?_; rintro y w9 ⟨rfl, nd, hn⟩; obtain ⟨HW9, HK9, HR9, x9, x9_, q0, q1, q2, q3⟩ := HALL.out w9 nd hn; clear hn))
    all_goals
      have HRf := Lib.hid (blk_set (blk_set HR9.out 0 (.string s2)) 1 (.int .i64 x2))
      have HWf := Lib.hid ((HW9.out.setNew (k := w.heap.size + 1 + 1) (by have := HLT.out; omega) 0 (.string s2)).setNew (k := w.heap.size + 1 + 1) (by have := HLT.out; omega) 1 (.int .i64 x2))
      have HKf := Lib.hid ((HK9.out.setNew (k := w.heap.size + 1 + 1) (by omega) (by have := HBW.out; omega) 0 (.string s2)).setNew (k := w.heap.size + 1 + 1) (by omega) (by have := HBW.out; omega) 1 (.int .i64 x2))
      go_wp2_with fail
      exact bodyPost_ret (results_ct rfl _ _ (w.heap.size + 1 + 1) 50 #[.string s2, .int .i64 x2] (0, 0) _ rfl HRf.out Try.underlying50 rfl (by kernel_rfl)) rfl ⟨p2, x2, by rw [HS2.out]; rfl, HLE.out, HWf.out, HKf.out⟩
  have o0 : W3.cell? ⟨w.heap.size + 1, 0, none⟩ = some (.int .i64 q) := (blk_cell HO.out 0).trans rfl
  have o1 : W3.cell? ⟨w.heap.size + 1, 1, none⟩ = some (.int .u64 n) := (blk_cell HO.out 1).trans rfl
  have o2 : W3.cell? ⟨w.heap.size + 1, 2, none⟩ = some (.int .i64 m) := (blk_cell HO.out 2).trans rfl
  have x0 : W3.cell? ⟨w.heap.size, 0, none⟩ = some (.string s) := (blk_cell HX.out 0).trans rfl
  have x1_ : W3.cell? ⟨w.heap.size, 1, none⟩ = some (.int .i64 x1) := (blk_cell HX.out 1).trans rfl
  go_wp2_with fail
  clear o0 o1 o2 x0 x1_
  refine (HREF.out _).mono ?_
  rintro y w4 ⟨rfl, hb4⟩
  have HW4 := Lib.hid (HW3.out.later hb4)
  have HK4 := Lib.hid (HK3.out.below (by have := HW3.out.lt; have := HBG.out; omega) hb4)
  have HX4 := Lib.hid ((hb4.block _ (blk_lt HX.out)).trans HX.out)
  have HO4 := Lib.hid ((hb4.block _ (blk_lt HO.out)).trans HO.out)
  have HR4 := Lib.hid ((hb4.block _ (blk_lt HRz.out)).trans HRz.out)
  clear hb4 HX HO HRz HW3 HK3
  go_wp2_with fail
  have hy5 : (w4.alloc (.cells #[.string s2, .int .i64 x2] 50)).heap[w4.heap.size]? = some (.cells #[.string s2, .int .i64 x2] 50 (0, 0)) := by simpa using heap_alloc_new w4 (.cells #[.string s2, .int .i64 x2] 50)
  have HY5 := Lib.hid hy5
  have HX5 := Lib.hid ((heap_alloc_old w4 (.cells #[.string s2, .int .i64 x2] 50) (blk_lt HX4.out)).trans HX4.out)
  have HO5 := Lib.hid ((heap_alloc_old w4 (.cells #[.string s2, .int .i64 x2] 50) (blk_lt HO4.out)).trans HO4.out)
  have HR5 := Lib.hid ((heap_alloc_old w4 (.cells #[.string s2, .int .i64 x2] 50) (blk_lt HR4.out)).trans HR4.out)
  have HW5 := Lib.hid (HW4.out.alloc (.cells #[.string s2, .int .i64 x2] 50))
  have HK5 := Lib.hid (HK4.out.below (by have := HW4.out.lt; have := HBG.out; omega) (below_alloc (Below.refl _ _) (.cells #[.string s2, .int .i64 x2] 50)))
  have HNX := Lib.hid (show w4.heap.size ≠ w.heap.size by have := blk_lt HX4.out; omega)
  have HNY := Lib.hid (show w4.heap.size ≠ g by have := HW4.out.lt; omega)
  clear hy5 HX4 HO4 HR4 HW4 HK4
  generalize w4.alloc (.cells #[.string s2, .int .i64 x2] 50) = w5 at *
  generalize w4.heap.size = yb at *
  have y0 : w5.cell? ⟨yb, 0, none⟩ = some (.string s2) := (blk_cell HY5.out 0).trans rfl
  have y1 : w5.cell? ⟨yb, 1, none⟩ = some (.int .i64 x2) := (blk_cell HY5.out 1).trans rfl
  have o1 : w5.cell? ⟨w.heap.size + 1, 1, none⟩ = some (.int .u64 n) := (blk_cell HO5.out 1).trans rfl
  have o2 : w5.cell? ⟨w.heap.size + 1, 2, none⟩ = some (.int .i64 m) := (blk_cell HO5.out 2).trans rfl
  clear y0 y1 o1 o2
  refine (HRD.out _ HW5.out).mono ?_
  rintro y w6 ⟨rfl, hw6, hk6⟩
  have HW6 := Lib.hid hw6
  have HK6 := Lib.hid (HK5.out.trans hk6)
  have HY6 := Lib.hid (RKeep.blk hk6 HY5.out HNY.out)
  have HX6 := Lib.hid (RKeep.blk hk6 HX5.out (by have := HLT.out; omega))
  have HR6 := Lib.hid (RKeep.blk hk6 HR5.out (by have := HLT.out; omega))
  clear hw6 hk6 HX5 HO5 HR5 HW5 HK5 HY5
  unfold hashV
  have HTH := Lib.hid (show (w6.alloc (.cells (nums .u8 (List.replicate 32 0)).toArray 74)).there w6.heap.size 0 (nums .u8 rs).toArray.size by
    have h1 := there_of_block (w := w6.alloc (.cells (nums .u8 (List.replicate 32 0)).toArray 74)) (b := w6.heap.size) (old := nums .u8 (List.replicate 32 0)) (heap_alloc_new w6 _)
    have e : (nums .u8 rs).toArray.size = (nums .u8 (List.replicate 32 (0 : Int))).length := by simp only [List.size_toArray, nums_length, HRL.out, List.length_replicate]
    rw [e]
    exact h1)
  have HAL := Lib.hid (below_alloc (Below.refl w6.heap.size w6) (.cells (nums .u8 (List.replicate 32 0)).toArray 74))
  have HST := Lib.hid (below_setCells' (B := w6.heap.size) (Nat.le_refl _) (nums .u8 rs) 0 (w6.alloc (.cells (nums .u8 (List.replicate 32 0)).toArray 74)) HAL.out)
  have HHB := Lib.hid (heap_setCells_all (w := w6.alloc (.cells (nums .u8 (List.replicate 32 0)).toArray 74)) (b := w6.heap.size) (t := 74) (old := nums .u8 (List.replicate 32 0)) (vs := nums .u8 rs) (heap_alloc_new w6 _) (by simp only [nums_length, HRL.out, List.length_replicate]))
  go_wp2_with (refine wpList_store_mid rfl 74 (.tmp 19) (.tmp 98) rfl w6.heap.size 0 (nums .u8 rs).toArray rfl rfl ?hth HI.out (all_oneCell_toArray (nums_one _ _)) ?_; (case hth => exact HTH.out))
  generalize hW8 : World.alloc (World.setCells _ _ _ _) _ = w8
  have hw8 : (((w6.alloc (.cells (nums .u8 (List.replicate 32 0)).toArray 74)).setCells w6.heap.size 0 (nums .u8 rs)).alloc (.cells (nums .u8 rs).toArray 5)) = w8 := hW8
  clear hW8
  have HB8 := Lib.hid (show Below w6.heap.size w6 w8 by rw [← hw8]; exact below_alloc HST.out _)
  have HH8 := Lib.hid (show w8.heap[w6.heap.size]? = some (.cells (nums .u8 rs).toArray 74 (0, 0)) by rw [← hw8]; exact (heap_alloc_old _ _ (blk_lt HHB.out)).trans HHB.out)
  have HHX := Lib.hid (show w6.heap.size ≠ w.heap.size by have := blk_lt HX6.out; omega)
  clear HTH HAL HST HHB HI hw8
  have HY8 := Lib.hid ((HB8.out.block _ (blk_lt HY6.out)).trans HY6.out)
  have HX8 := Lib.hid ((HB8.out.block _ (blk_lt HX6.out)).trans HX6.out)
  have HR8 := Lib.hid ((HB8.out.block _ (blk_lt HR6.out)).trans HR6.out)
  have HW8 := Lib.hid (HW6.out.later HB8.out)
  have HK8 := Lib.hid (HK6.out.below (by have := HW6.out.lt; have := HBG.out; omega) HB8.out)
  clear HY6 HX6 HR6 HW6 HK6 HB8
  generalize w6.heap.size = hb at *
  have y0 : w8.cell? ⟨yb, 0, none⟩ = some (.string s2) := (blk_cell HY8.out 0).trans rfl
  have y1 : w8.cell? ⟨yb, 1, none⟩ = some (.int .i64 x2) := (blk_cell HY8.out 1).trans rfl
  have e0 : w8.cell? ⟨w.heap.size, 0, none⟩ = some (.string s) := (blk_cell HX8.out 0).trans rfl
  have e1 : w8.cell? ⟨w.heap.size, 1, none⟩ = some (.int .i64 x1) := (blk_cell HX8.out 1).trans rfl
  have e2 := blk_frozen HX8.out 0
  have e3 := blk_frozen HX8.out 1
  have HXt := Lib.hid (blk_set (blk_set HX8.out 0 (.string s2)) 1 (.int .i64 x2))
  have HWt := Lib.hid ((HW8.out.setNew (k := w.heap.size) HLT.out 0 (.string s2)).setNew (k := w.heap.size) HLT.out 1 (.int .i64 x2))
  have HKt := Lib.hid ((HK8.out.setNew (k := w.heap.size) (Nat.le_refl _) HBW.out 0 (.string s2)).setNew (k := w.heap.size) (Nat.le_refl _) HBW.out 1 (.int .i64 x2))
  have HRt := Lib.hid ((Below.heap_setCell _ ⟨w.heap.size, 1, none⟩ (.int .i64 x2) (w.heap.size + 1 + 1) (by simp; omega)).trans ((Below.heap_setCell _ ⟨w.heap.size, 0, none⟩ (.string s2) (w.heap.size + 1 + 1) (by simp; omega)).trans HR8.out))
  have HHt := Lib.hid ((Below.heap_setCell _ ⟨w.heap.size, 1, none⟩ (.int .i64 x2) hb HHX.out).trans ((Below.heap_setCell _ ⟨w.heap.size, 0, none⟩ (.string s2) hb HHX.out).trans HH8.out))
  have hcv8 := Kd.C_string (P := Try.prog) (c := 32) Try.underlying22 Try.underlying5 Try.underlying9 (Kd.C_drew (C_of_whole HH8.out (by rw [HRL.out]; decide)))
  have hcv9 := Kd.C_string (P := Try.prog) (c := 32) Try.underlying22 Try.underlying5 Try.underlying9 (Kd.C_drew (C_of_whole HHt.out (by rw [HRL.out]; decide)))
  rw [HRL.out, HT.out] at hcv8 hcv9
  go_region_law (fail)
  all_goals
    go_wp2_with fail
    go_meet
    exact ⟨rfl, Lib.hid HXt.out, Lib.hid HWt.out.drew, Lib.hid HKt.out.drew, Lib.hid HRt.out⟩
end Go.Proofs.Ytigmkbkmfhlimaa.Hand
