/- The codec's reader: Hash. -/
import Derived.Test.YtfcmdhimlfoofaaProg
import Derived.Below
import Derived.Deep.Draws
import Derived.Deep.AppendLies
import Derived.Maps.AppendAt
import Derived.OwnWalk
import Derived.Laws.BytesArg
import Derived.Laws.MakeOwn
import Derived.Laws.OwnMore
import Derived.Deep.OwnRows
import Derived.Tactics
import Derived.Lib.ConvBytes
import Derived.Laws.Slices
import Derived.WalkKit
import Derived.KernelRfl
import Derived.RowKit3
import Derived.Deep.LoopGhost
import Derived.Deep.QuietTactic
import Derived.BigQuiet
import Derived.WideLaws
import Derived.Deep.DeepCutAuto
import Derived.Deep.CutBlock
import Derived.Deep.RegionHeld3
import Derived.Laws.Rows
import Derived.Lib.AppendStr
import Derived.ArgAppend
import Derived.Laws.IdiomCopy
import Derived.OrdersHeld
import Derived.Laws.BitsLemmas
import Derived.RowKit
import Derived.StillTailTactics
import Derived.Test.YtfcmdhimlfoofaaWWords
import Derived.Test.YtfcmdhimlfoofaaWLast
import Derived.Test.YtfcmdhimlfoofaaWMore
import Derived.Lib.Hide
import Derived.Outline
import Derived.Deep.RegionLaw
import Derived.Deep.RegionHeld3
import Derived.Laws.CopyOwn
import Derived.BigRegion
import Derived.Test.YtfcmdhimlfoofaaReader2
import Derived.Test.YtfcmdhimlfoofaaArrays
namespace Go.Proofs.Ytfcmdhimlfoofaa.Hand
open Go Go.RowKit Go.Proofs.Ytfcmdhimlfoofaa.Plain Go.Proofs.Ytfcmdhimlfoofaa.PAll Go.Proofs.YtfcmdhimlfoofaaW.PrintWords Go.Proofs.YtfcmdhimlfoofaaW.PrintLast Go.Proofs.YtfcmdhimlfoofaaW.PrintMore
set_option linter.unusedVariables false
set_option linter.unusedSimpArgs false
/-- The hash that is read: nought, where bytes lack. -/
def hashR (bs : List Int) (p : Nat) (x : Int) : List Int × Nat × Int := (if (takeR bs p x 32).1.length = 32 then (takeR bs p x 32).1 else List.replicate 32 0, (takeR bs p x 32).2)
def hashV (l : List Int) : Value := .agg (nums .u8 l).toArray
theorem info_hash : (Try.prog.info? 28).map (·.size) = some 32 := by kernel_rfl
set_option maxHeartbeats 4000000 in
set_option maxRecDepth 100000 in
theorem chash_calls {w : World} {B g : Nat} {bs : List Int} {p : Nat} {x : Int} (h : IsR w B g bs (p : Int) x) (hp : p ≤ bs.length) (hl : bs.length ≤ 100000000) :
    Calls Try.prog 54 #[.pointer (some ⟨g, 0, none⟩)] w fun e w' => e = .returned (hashV (hashR bs p x).1) ∧ IsR w' B g bs ((hashR bs p x).2.1 : Nat) (hashR bs p x).2.2 ∧ RKeep w w' B g := by
  have HT := Lib.hid (fun (w : World) hw => ctake_calls (w := w) (B := B) (g := g) (p := p) (x := x) hw hp hl 32 (by decide))
  have hlen : (takeR bs p x 32).1.length = 32 ∨ (takeR bs p x 32).1.length = 0 := by
    unfold takeR
    split
    · exact .inr rfl
    · split
      · exact .inr rfl
      · refine .inl ?_
        simp
        omega
  unfold hashR
  obtain ⟨r, hr⟩ : ∃ r, takeR bs p x 32 = r := ⟨_, rfl⟩
  rw [hr] at HT hlen ⊢
  obtain ⟨ys, p1, x1⟩ := r
  simp only at HT hlen ⊢
  have HLEN := Lib.hid hlen
  have HRES := Lib.hid (show (if ys.length = 32 then ys else List.replicate 32 0) = ys ++ (List.replicate 32 0).drop ys.length by
    rcases hlen with h | h
    · rw [if_pos h, h]; simp
    · rw [if_neg (by omega), h, List.eq_nil_of_length_eq_zero h]; simp)
  rw [HRES.out]
  obtain ⟨rs, hrs⟩ : ∃ rs, ys ++ (List.replicate 32 0).drop ys.length = rs := ⟨_, rfl⟩
  have HRL := Lib.hid (show rs.length = 32 by rw [← hrs]; simp; omega)
  have HRS := Lib.hid hrs
  rw [hrs]
  clear hrs HRES
  have HW := Lib.hid h
  have HLT := Lib.hid h.lt
  have HBG := Lib.hid h.1
  have HSZ : ys.length ≤ 32 := by omega
  have hsz1 : (Try.prog.info? 5).map (·.size) = some 1 := by kernel_rfl
  have HS1 := Lib.hid hsz1
  clear h hr hlen hp hl hsz1
  go_enter Try.func54, Try.ntmps54
  go_wp2_with fail
  generalize hW2 : World.alloc _ _ = W2
  have hk0 : W2.heap[w.heap.size]? = some (.cells (nums .u8 (List.replicate 32 0)).toArray 28 (0, 0)) := by rw [← hW2]; exact heap_alloc2_old _ _ _
  have hk1 : W2.heap[w.heap.size + 1]? = some (.cells (nums .u8 (List.replicate 32 0)).toArray 28 (0, 0)) := by rw [← hW2]; exact heap_alloc2_new _ _ _
  have HK0 := Lib.hid hk0
  have HK1 := Lib.hid hk1
  have HW2 := Lib.hid (show IsR W2 B g bs (p : Int) x by rw [← hW2]; exact (HW.out.alloc _).alloc _)
  have HB2 := Lib.hid (show RKeep w W2 B g by rw [← hW2]; exact (RKeep.refl w B g).below (by have := HLT.out; have := HBG.out; omega) (below_alloc (below_alloc (Below.refl _ _) _) _))
  have HSZ2 := Lib.hid (show w.heap.size + 1 < W2.heap.size from blk_lt hk1)
  clear hk0 hk1 hW2
  go_region_law (first
     | (go_simp; go_at_call 52; refine (HT.out _ HW2.out.drew).mono ?_; rintro e w3 ⟨v, rfl, hv, hw, hk⟩; obtain ⟨A3, c3, rfl, hc3, hC3⟩ := Kd.R_reads hv; have HC3 := Lib.hid hC3; have HW3 := Lib.hid hw; have HB3 := Lib.hid (HB2.out.drew.trans hk); have HK03 := Lib.hid ((hk.2.2 w.heap.size (by have := HSZ2.out; show w.heap.size < W2.heap.size; omega) (by have := HLT.out; omega) (by simp)).trans HK0.out); have HK13 := Lib.hid ((hk.2.2 (w.heap.size + 1) (by have := HSZ2.out; show w.heap.size + 1 < W2.heap.size; omega) (by have := HLT.out; omega) (by simp)).trans HK1.out); clear hv hw hk hc3 hC3)
     | (refine step_copy_splice (by rfl) (.tmp 4) (.tmp 6) 23 23 (by rfl) 5 Try.underlying23 HS1.out (some ⟨w.heap.size + 1, 0, none⟩) A3 32 32 ys.length c3 (by rfl) (by rfl) (w.heap.size + 1) 0 (nums .u8 (List.replicate 32 0)) 28 HK13.out (nums .u8 ys) (by simp only [nums, List.length_map]; exact (Nat.min_eq_left HSZ).symm) (fun hp => ⟨rfl, C_cells HC3.out (by simpa [nums] using hp)⟩) (by simp [nums]; omega) (nums_one _ _) (w.heap.size + 1) w3 (Below.refl _ _) (Nat.le_refl _) ?_; intro w4 hk4 hb4; have HB4 := Lib.hid hb4))
  all_goals
    have hk42 := hk4.out
    have HK4 := Lib.hid (show w4.heap[w.heap.size + 1]? = some (.cells (nums .u8 rs).toArray 28 (0, 0)) by
      rw [hk42, ← HRS.out]
      simp [splice, nums])
    clear hk4 hk42
    have HI := Lib.hid (show (Try.prog.info? 28).map (·.size) = some (nums .u8 rs).toArray.size by
      have : (nums .u8 rs).toArray.size = 32 := by simp only [List.size_toArray, nums_length]; exact HRL.out
      rw [this]
      exact info_hash)
    have HK04 := Lib.hid ((HB4.out.block w.heap.size (by omega)).trans HK03.out)
    have HTH := Lib.hid (show w4.there w.heap.size 0 (nums .u8 rs).toArray.size by
      have := there_of_block HK04.out
      have e : (nums .u8 rs).toArray.size = (nums .u8 (List.replicate 32 (0 : Int))).length := by simp only [List.size_toArray, nums_length, HRL.out, List.length_replicate]
      rw [e]
      exact this)
    have HNW := Lib.hid (heap_setCells_all (vs := nums .u8 rs) HK04.out (by simp only [nums_length, HRL.out, List.length_replicate]))
    have HW5 := Lib.hid ((HW3.out.below HB4.out (by have := HLT.out; omega)).below (below_setCells' (B := w.heap.size) (Nat.le_refl _) (nums .u8 rs) 0 w4 (Below.refl _ _)) HLT.out)
    have HB5 := Lib.hid (show RKeep w (w4.setCells w.heap.size 0 (nums .u8 rs)) B g from ⟨HB3.out.1.trans ((Below.mono HB4.out (by have := HLT.out; have := HBG.out; omega)).trans (below_setCells' (by have := HLT.out; have := HBG.out; omega) (nums .u8 rs) 0 w4 (Below.refl _ _))), by have := HB4.out.size; have := HB3.out.2.1; rw [size_setCells']; omega, fun i hi hg _ => by
      rw [heap_setCells_ne _ _ _ _ _ (by omega), HB4.out.block i (by omega)]
      exact HB3.out.2.2 i hi hg (by simp)⟩)
    clear hb4
    go_wp2_with (first | (refine wpList_load_row rfl 28 (.tmp 3) rfl (w.heap.size + 1) rfl 28 _ _ _ HK4.out Try.underlying28 rfl HI.out ?_) | (refine wpList_store_mid rfl 28 (.tmp 2) (.tmp 8) rfl w.heap.size 0 (nums .u8 rs).toArray rfl rfl HTH.out HI.out (all_oneCell_toArray (nums_one _ _)) ?_))
    exact bodyPost_ret (results_cell_row rfl _ _ w.heap.size 28 (nums .u8 rs).toArray _ _ rfl HNW.out Try.underlying28 rfl HI.out) rfl ⟨rfl, HW5.out, HB5.out⟩
end Go.Proofs.Ytfcmdhimlfoofaa.Hand
