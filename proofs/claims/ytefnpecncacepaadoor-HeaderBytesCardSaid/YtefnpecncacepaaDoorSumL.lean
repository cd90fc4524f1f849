/- The sum, and the double sum, of many parts. -/
import Derived.Test.YtefnpecncacepaaDoorProg
import Derived.Below
import Derived.Deep.Draws
import Derived.Deep.AppendLies
import Derived.Maps.AppendAt
import Derived.OwnWalk
import Derived.Laws.BytesArg
import Derived.Laws.MakeOwn
import Derived.Laws.OwnMore
import Derived.Deep.OwnRows
import Derived.Tactics
import Derived.Lib.ConvBytes
import Derived.Laws.Slices
import Derived.WalkKit
import Derived.KernelRfl
import Derived.RowKit3
import Derived.Deep.LoopGhost
import Derived.Deep.QuietTactic
import Derived.BigQuiet
import Derived.WideLaws
import Derived.Deep.DeepCutAuto
import Derived.Deep.CutBlock
import Derived.Deep.RegionHeld3
import Derived.Laws.Rows
import Derived.Lib.AppendStr
import Derived.ArgAppend
import Derived.Laws.IdiomCopy
import Derived.OrdersHeld
import Derived.Laws.BitsLemmas
import Derived.RowKit
import Derived.StillTailTactics
import Derived.Test.YtefnpecncacepaaDoorWWords
import Derived.Test.YtefnpecncacepaaDoorWLast
import Derived.Test.YtefnpecncacepaaDoorWMore
import Derived.Lib.Hide
import Derived.Outline
import Derived.StillTailTactics
import Derived.Deep.MidRow
import Derived.Deep.WholeRow
import Derived.Deep.RegionLaw
import Derived.Laws.Tables
import Derived.Deep.DrawnRows
import Derived.Test.YtefnpecncacepaaDoorHSum
namespace Go.Proofs.YtefnpecncacepaaDoor.Hand
open Go Go.RowKit Go.Proofs.YtefnpecncacepaaDoor.Plain Go.Proofs.YtefnpecncacepaaDoor.PAll Go.Proofs.YtefnpecncacepaaDoorW.PrintWords Go.Proofs.YtefnpecncacepaaDoorW.PrintLast Go.Proofs.YtefnpecncacepaaDoorW.PrintMore
set_option linter.unusedVariables false
set_option linter.unusedSimpArgs false
set_option maxRecDepth 100000
/-- Texts that are read. -/
abbrev kBs : Kd (List Int) := Kd.slice 5 (Kd.int .u8)
theorem SrcRow.old {w0 w : World} {g : Nat} {A : Option Addr} {ys : List Int} (h : Kd.C (Kd.int .u8) w0 A ys.length ys) (hb : Below w0.heap.size w0 w) (hg : w0.heap.size ≤ g) : SrcRow w g A ys := by
  by_cases h0 : 0 < ys.length
  · obtain ⟨ad, hA, hc⟩ := C_cells h h0
    have hlt := block_lt_of_cell (hc 0 (.int .u8 (rd ys 0)) (by simp [nums, rd, h0]))
    rw [add_block] at hlt
    refine ⟨ad, fun _ => ⟨hA, by omega, Nat.lt_of_lt_of_le hlt hb.size, fun j hj => ?_⟩⟩
    rw [hb.cell (p := ad.add j) (by rw [add_block]; exact hlt)]
    exact hc j _ (by simp [nums, rd, hj])
  · exact ⟨⟨0, 0, none⟩, fun h => absurd h h0⟩
/-- An element of a row of texts. -/
theorem C_text {w : World} {A : Option Addr} {yss : List (List Int)} (h : Kd.C kBs w A yss.length yss) {i : Nat} (hi : i < yss.length) : ∃ ad Ai ci, A = some ad ∧ w.cell? (ad.add i) = some (.slice Ai (yss[i]).length ci) ∧ (yss[i]).length ≤ ci ∧ Kd.C (Kd.int .u8) w Ai (yss[i]).length (yss[i]) := by
  obtain ⟨_, _, h3⟩ := h
  obtain ⟨ad, e, hc⟩ := h3 (by omega)
  obtain ⟨c, hl, hK, hcell⟩ := hc i yss[i] (List.getElem?_eq_getElem hi)
  obtain ⟨Ai, ci, hcc, hle, hC⟩ := hK
  subst hcc
  refine ⟨ad, Ai, ci, e, ?_, hle, hC⟩
  have := hcell 0 _ rfl
  rw [← this]
  congr 2
  show i = i * 1 + 0
  omega
set_option maxHeartbeats 1000000 in
set_option maxRecDepth 100000 in
theorem sums_calls (A : Option Addr) (n c : Nat) (yss : List (List Int)) (w : World) (hn : yss.length = n) (hr : Kd.C kBs w A n yss) (hy : ∀ ys ∈ yss, ∀ x ∈ ys, 0 ≤ x ∧ x < 256) (hl : yss.flatten.length ≤ 900000) (hn1 : n ≤ 1000000) (hK : KT w) :
    Calls Tryd.prog 35 #[.slice A n c] w fun e w' => e = .returned (.agg (nums .u8 (sumP yss.flatten)).toArray) ∧ Below w.heap.size w w' := by
  have hz31 := (zero_of_info infoHash).1
  obtain ⟨Z0, hZ0⟩ : ∃ C, (nums .u8 (List.replicate 32 0)).toArray = C := ⟨_, rfl⟩
  rw [hZ0] at hz31
  have HZ0 := Lib.hid hZ0
  have HR := Lib.hid hr
  have HN := Lib.hid hn
  have HY := Lib.hid hy
  have HL := Lib.hid hl
  have HK := Lib.hid hK
  have HU31 := Lib.hid Tryd.underlying24
  clear hr hn hy hl hK hZ0
  go_enter Tryd.func35, Tryd.ntmps35
  go_wp2_with fail
  refine (new_calls _).mono ?_
  rintro e w1 ⟨g, rfl, hI, hb1⟩
  have HB1 := Lib.hid ((below_alloc (Below.refl w.heap.size w) (.cells Z0 24)).trans (Below.mono hb1 (by rw [World.size_alloc]; omega)))
  have HZ1 := Lib.hid ((hb1.block w.heap.size (by rw [World.size_alloc]; omega)).trans (heap_alloc_new w (.cells Z0 24)))
  have HI := Lib.hid hI
  have HGB := Lib.hid (show w.heap.size + 1 ≤ g by have := hI.1; rw [World.size_alloc] at this; exact this)
  have hK0 : 0 < w.heap.size := HK.out.lt
  have HK0 := Lib.hid hK0
  clear hI hb1 hz31 hK0
  go_wp2_with fail
  go_loopw [9] (fun i wr => ∃ k : Nat, k ≤ n ∧ i = .int .i64 (k : Int) ∧ Hid (IsH wr (w.heap.size + 1) g (yss.take k).flatten ∧ Below w.heap.size w wr ∧ wr.heap[w.heap.size]? = some (.cells Z0 24 (0, 0)) ∧ w.heap.size + 1 ≤ wr.heap.size)) (fun i _ => (n - (intOf i).toNat))
  case atStart => exact ⟨0, by omega, rfl, Lib.hid ⟨⟨HGB.out, HI.out.2⟩, HB1.out, HZ1.out, by have := HI.out.lt; have := HGB.out; omega⟩⟩
  case round =>
    obtain ⟨k, hk, rfl, H⟩ := hrel
    obtain ⟨hI, hbl, hz, hsz⟩ := H.out
    by_cases hlt : k < n
    · have hklt : k < yss.length := by rw [HN.out]; exact hlt
      obtain ⟨ad, Ai, ci, hA, hcell, hci, hCi⟩ := C_text (by rw [HN.out]; exact HR.out) hklt
      subst hA
      have hadb := block_lt_of_cell hcell
      have hcell2 : wr.cell? (ad.add k) = some (.slice Ai (yss[k]).length ci) := (hbl.cell (p := ad.add k) hadb).trans hcell
      have hcell3 : wr.cell? (ad.add (k * 1)) = some (.slice Ai (yss[k]).length ci) := by rw [Nat.mul_one]; exact hcell2
      have hsum : (yss.take k).flatten.length + (yss[k]).length ≤ 1000000 := by
        have h1 : (yss.take (k + 1)).flatten = (yss.take k).flatten ++ yss[k] := by
          rw [List.take_succ_eq_append_getElem hklt, List.flatten_append]
          simp
        have h2 : yss.flatten = (yss.take (k + 1)).flatten ++ (yss.drop (k + 1)).flatten := by rw [← List.flatten_append, List.take_append_drop]
        have h3 := HL.out
        rw [h2, h1] at h3
        simp only [List.length_append] at h3
        omega
      have hstep : (yss.take (k + 1)).flatten = (yss.take k).flatten ++ yss[k] := by
        rw [List.take_succ_eq_append_getElem hklt, List.flatten_append]
        simp
      obtain ⟨ys, hys⟩ : ∃ ys, yss[k] = ys := ⟨_, rfl⟩
      rw [hys] at hcell2 hcell3 hci hCi hsum hstep
      have hyb : ∀ x ∈ ys, 0 ≤ x ∧ x < 256 := HY.out ys (by rw [← hys]; exact List.getElem_mem hklt)
      obtain ⟨m, hm⟩ : ∃ m, ys.length = m := ⟨_, rfl⟩
      rw [hm] at hcell2 hcell3 hci hsum
      have HW := Lib.hid (write_calls (w := wr) hI Ai ci m ys hm (SrcRow.old hCi hbl (by have := HGB.out; omega)) hci hyb hsum hsz (HK.out.below hbl (Nat.le_refl _)) (by have := HK0.out; omega))
      have HST := Lib.hid hstep
      have HBL := Lib.hid hbl
      have HZ := Lib.hid hz
      have HSZ := Lib.hid hsz
      clear hI hbl hz hsz H hcell hadb hci hCi hsum hstep hys hyb hm hklt
      go_wp2_with fail
      refine HW.out.mono ?_
      rintro e w4 ⟨rfl, hI4, hb4, hk4⟩
      have HI4 := Lib.hid (show IsH w4 (w.heap.size + 1) g (yss.take (k + 1)).flatten by rw [HST.out]; exact hI4)
      have HB4 := Lib.hid (HBL.out.trans (Below.mono hb4 (by omega)))
      have HZ4 := Lib.hid ((hk4.2 w.heap.size (by have := HSZ.out; omega) (by have := HGB.out; omega) (by simp)).trans HZ.out)
      have HSZ4 := Lib.hid (show w.heap.size + 1 ≤ w4.heap.size from Nat.le_trans HSZ.out hk4.1)
      clear hI4 hb4 hk4
      go_wp2
      go_roundw
      case rel => exact ⟨k + 1, by omega, by go_num, Lib.hid ⟨HI4.out, HB4.out, HZ4.out, HSZ4.out⟩⟩
      case measure => simp only [intOf]; omega
    · obtain rfl : k = n := by omega
      have hfl : (yss.take k).flatten = yss.flatten := by rw [List.take_of_length_le (by rw [HN.out]; omega)]
      rw [hfl] at hI
      have hfb : ∀ x ∈ yss.flatten, 0 ≤ x ∧ x < 256 := by
        intro x hx
        obtain ⟨ys, h1, h2⟩ := List.mem_flatten.1 hx
        exact HY.out ys h1 x h2
      have HSU := Lib.hid (hsum_calls hI HL.out hfb (HK.out.below hbl (Nat.le_refl _)))
      have HBL := Lib.hid hbl
      have HZ := Lib.hid hz
      obtain ⟨RA, hRA⟩ : ∃ R, (nums .u8 (sumP yss.flatten)).toArray = R := ⟨_, rfl⟩
      have hsl : (nums .u8 (sumP yss.flatten)).length = 32 := by simp [nums, sumP_len]
      rw [hRA] at HSU
      have HRS := Lib.hid (show (Tryd.prog.info? 24).map (·.size) = some RA.size ∧ Z0.size = RA.size ∧ RA.all (·.oneCell') = true by
        have h32 : RA.size = 32 := by rw [← hRA]; exact hsl
        refine ⟨by rw [h32]; exact (zero_of_info infoHash).2, by rw [h32, ← HZ0.out]; rfl, by rw [← hRA]; exact all_oneCell_toArray (nums_one _ _)⟩)
      have HRR := Lib.hid hRA
      clear hI hbl hz hsz H hfl hfb hRA hsl hlt hk
      go_wp2_with fail
      refine HSU.out.mono ?_
      rintro e w5 ⟨rfl, hb5⟩
      have HZ5 := Lib.hid ((hb5.block w.heap.size (blk_lt HZ.out)).trans HZ.out)
      have HB5 := Lib.hid (HBL.out.trans (Below.mono hb5 HBL.out.size))
      clear hb5 HSU
      go_wp2_with ((with_reducible show wpList _ _ _ (Oper.mk _ (Op.store _ _ _) _ _ _ _ :: _) _ _); (go_loud (refine wpList_store_row rfl 24 (.tmp 2) (.tmp 18) rfl w.heap.size RA rfl rfl 24 Z0 HZ5.out HRS.out.1 HRS.out.2.1 HRS.out.2.2 ?_)))
      exact bodyPost_ret (results_cell_row rfl _ _ w.heap.size 24 RA (0, 0) _ rfl (setRow_heap _ _ _ _ _ _ HZ5.out) HU31.out rfl HRS.out.1) rfl ⟨by rw [HRR.out], below_setRow HB5.out (Nat.le_refl _) _⟩
/-- One text, in a list made for it. -/
theorem C_one {w : World} {b c : Nat} {t : TypeId} {A : Option Addr} {ys : List Int} (hb : w.heap[b]? = some (.cells #[.slice A ys.length c] t (0, 0))) (hc : ys.length ≤ c) (h : Kd.C (Kd.int .u8) w A ys.length ys) : Kd.C kBs w (some ⟨b, 0, none⟩) 1 [ys] := by
  refine ⟨rfl, by decide, fun _ => ⟨⟨b, 0, none⟩, rfl, fun j p hj => ?_⟩⟩
  have hj1 := (List.getElem?_eq_some_iff.1 hj).1
  have hj0 : j = 0 := by simpa using hj1
  subst hj0
  have hp : p = ys := by simpa using hj.symm
  subst hp
  refine ⟨[.slice A p.length c], rfl, ⟨A, c, rfl, hc, h⟩, fun i u hu => ?_⟩
  have hi1 := (List.getElem?_eq_some_iff.1 hu).1
  have hi0 : i = 0 := by simpa using hi1
  subst hi0
  have : u = .slice A p.length c := by simpa using hu.symm
  subst this
  exact show w.cell? ⟨b, 0, none⟩ = some (.slice A p.length c) from (blk_cell hb 0).trans rfl
theorem slice_all (W : World) (g : Nat) : (Instr.sliceAt 24 (.pointer (some ⟨g, 0, none⟩)) none none none).run Tryd.prog W = .ok (.slice (some ⟨g, 0, none⟩) 32 32) W := by
  rw [run_sliceAt_array_all W 24 ⟨g, 0, none⟩ arr32.1]
  have z : (sizeOf (Tryd.prog.elem 24)).run Tryd.prog W = .ok 1 W := by rfl
  rw [z, arr32.2]
  rfl
theorem nums_size (k : IntKind) (l : List Int) : (nums k l).toArray.size = l.length := by simp [nums]
set_option maxHeartbeats 1000000 in
set_option maxRecDepth 100000 in
theorem twice_calls (A : Option Addr) (n c : Nat) (yss : List (List Int)) (w : World) (hn : yss.length = n) (hr : Kd.C kBs w A n yss) (hy : ∀ ys ∈ yss, ∀ x ∈ ys, 0 ≤ x ∧ x < 256) (hl : yss.flatten.length ≤ 900000) (hn1 : n ≤ 1000000) (hK : KT w) :
    Calls Tryd.prog 18 #[.slice A n c] w fun e w' => e = .returned (.agg (nums .u8 (twiceP yss.flatten)).toArray) ∧ Below w.heap.size w w' := by
  have hz31 := (zero_of_info infoHash).1
  obtain ⟨Z0, hZ0⟩ : ∃ C, (nums .u8 (List.replicate 32 0)).toArray = C := ⟨_, rfl⟩
  rw [hZ0] at hz31
  have HZ0 := Lib.hid hZ0
  have HU31 := Lib.hid Tryd.underlying24
  have hba := below_alloc (Below.refl w.heap.size w) (.cells Z0 24)
  have HS := Lib.hid (sums_calls A n c yss (w.alloc (.cells Z0 24)) hn (Kd.C_below hr hba) hy hl hn1 (hK.below hba (Nat.le_refl _)))
  have HK := Lib.hid hK
  obtain ⟨S1, hS1⟩ : ∃ S, sumP yss.flatten = S := ⟨_, rfl⟩
  have hl1 : S1.length = 32 := by rw [← hS1]; exact sumP_len _
  have hb1 : ∀ x ∈ S1, 0 ≤ x ∧ x < 256 := by rw [← hS1]; exact sumP_bytes _
  obtain ⟨S2, hS2⟩ : ∃ S, twiceP yss.flatten = S := ⟨_, rfl⟩
  have hS2' : sumP S1 = S2 := by rw [← hS2, ← hS1]; rfl
  have hl2 : S2.length = 32 := by rw [← hS2']; exact sumP_len _
  rw [hS1] at HS
  rw [hS2]
  obtain ⟨RA, hRA⟩ : ∃ R, (nums .u8 S1).toArray = R := ⟨_, rfl⟩
  rw [hRA] at HS
  obtain ⟨RB, hRB⟩ : ∃ R, (nums .u8 S2).toArray = R := ⟨_, rfl⟩
  rw [hRB]
  have h32 : ∀ S : List Int, S.length = 32 → (Tryd.prog.info? 24).map (·.size) = some (nums .u8 S).toArray.size ∧ Z0.size = (nums .u8 S).toArray.size ∧ (nums .u8 S).toArray.all (·.oneCell') = true := fun S hS => by
    have h : (nums .u8 S).toArray.size = 32 := by rw [nums_size]; exact hS
    exact ⟨by rw [h]; exact (zero_of_info infoHash).2, by rw [h, ← hZ0]; rfl, all_oneCell_toArray (nums_one _ _)⟩
  have HRA := Lib.hid (hRA ▸ h32 S1 hl1)
  have HRB := Lib.hid (hRB ▸ h32 S2 hl2)
  have HS1 := Lib.hid (And.intro hl1 (And.intro hb1 (And.intro hRA (And.intro hS2' hRB))))
  clear hr hn hy hl hK hba hS1 hl1 hb1 hS2 hS2' hl2 hRA hRB h32 hZ0
  go_enter Tryd.func18, Tryd.ntmps18
  go_wp2_with fail
  refine HS.out.mono ?_
  rintro e w1 ⟨rfl, hb1⟩
  have HZ1 := Lib.hid ((hb1.block w.heap.size (by rw [World.size_alloc]; omega)).trans (heap_alloc_new w (.cells Z0 24)))
  have HB1 := Lib.hid ((below_alloc (Below.refl w.heap.size w) (.cells Z0 24)).trans (Below.mono hb1 (by rw [World.size_alloc]; omega)))
  have HW1 := Lib.hid (show w.heap.size < w1.heap.size from Nat.lt_of_lt_of_le (by rw [World.size_alloc]; omega) hb1.size)
  have hs := fun W => slice_all W w1.heap.size
  clear hb1
  go_wp2_with ((with_reducible show wpList _ _ _ (Oper.mk _ (Op.store _ _ _) _ _ _ _ :: _) _ _); (go_loud (refine wpl_store_new rfl 24 (.tmp 3) (.tmp 5) rfl Z0 RA rfl rfl HRA.out.1 HRA.out.2.1 HRA.out.2.2 ?_)))
  have hnew := heap_alloc_new (w1.alloc (.cells RA 24)) (.cells #[.slice (some ⟨w1.heap.size, 0, none⟩) 32 32] 28)
  rw [World.size_alloc] at hnew
  have hold := blk_alloc (heap_alloc_new w1 (.cells RA 24)) (.cells #[.slice (some ⟨w1.heap.size, 0, none⟩) 32 32] 28)
  have hba : Below w1.heap.size w1 ((w1.alloc (.cells RA 24)).alloc (.cells #[.slice (some ⟨w1.heap.size, 0, none⟩) 32 32] 28)) := below_alloc (below_alloc (Below.refl _ _) _) _
  have hC : Kd.C (Kd.int .u8) ((w1.alloc (.cells RA 24)).alloc (.cells #[.slice (some ⟨w1.heap.size, 0, none⟩) 32 32] 28)) (some ⟨w1.heap.size, 0, none⟩) S1.length S1 := C_of_block (pre := []) (post := []) (t := 24) (fr := (0, 0)) (by rw [List.nil_append, List.append_nil, HS1.out.2.2.1]; exact hold) rfl (by rw [HS1.out.1]; decide)
  have HZ2 := Lib.hid ((hba.block w.heap.size HW1.out).trans HZ1.out)
  have HB2 := Lib.hid (HB1.out.trans (Below.mono hba (Nat.le_of_lt HW1.out)))
  have hs2 := sums_calls (some ⟨w1.heap.size + 1, 0, none⟩) 1 1 [S1] _ rfl (C_one (A := some ⟨w1.heap.size, 0, none⟩) (c := 32) (ys := S1) (by rw [HS1.out.1]; exact hnew) (by rw [HS1.out.1]; decide) hC) (by simpa using HS1.out.2.1) (by simp [HS1.out.1]) (by decide) (HK.out.below HB2.out (Nat.le_refl _))
  rw [show [S1].flatten = S1 by simp, HS1.out.2.2.2.1, HS1.out.2.2.2.2] at hs2
  have HS2 := Lib.hid hs2
  clear hnew hold hba hC hs2 hs
  refine HS2.out.mono ?_
  rintro e w5 ⟨rfl, hb5⟩
  have HZ5 := Lib.hid ((hb5.block w.heap.size (blk_lt HZ2.out)).trans HZ2.out)
  have HB5 := Lib.hid (HB2.out.trans (Below.mono hb5 HB2.out.size))
  clear hb5 HS2
  go_wp2_with ((with_reducible show wpList _ _ _ (Oper.mk _ (Op.store _ _ _) _ _ _ _ :: _) _ _); (go_loud (refine wpList_store_row rfl 24 (.tmp 2) (.tmp 8) rfl w.heap.size RB rfl rfl 24 Z0 HZ5.out HRB.out.1 HRB.out.2.1 HRB.out.2.2 ?_)))
  exact bodyPost_ret (results_cell_row rfl _ _ w.heap.size 24 RB (0, 0) _ rfl (setRow_heap _ _ _ _ _ _ HZ5.out) HU31.out rfl HRB.out.1) rfl ⟨rfl, below_setRow HB5.out (Nat.le_refl _) _⟩
end Go.Proofs.YtefnpecncacepaaDoor.Hand
