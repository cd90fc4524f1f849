/- A header's hash: walked. -/
import Derived.Test.YtefnpecncacepaaDoorProg
import Derived.Below
import Derived.Deep.Draws
import Derived.Deep.AppendLies
import Derived.Maps.AppendAt
import Derived.OwnWalk
import Derived.Laws.BytesArg
import Derived.Laws.MakeOwn
import Derived.Laws.OwnMore
import Derived.Deep.OwnRows
import Derived.Tactics
import Derived.Lib.ConvBytes
import Derived.Laws.Slices
import Derived.WalkKit
import Derived.KernelRfl
import Derived.RowKit3
import Derived.Deep.LoopGhost
import Derived.Deep.QuietTactic
import Derived.BigQuiet
import Derived.WideLaws
import Derived.Deep.DeepCutAuto
import Derived.Deep.CutBlock
import Derived.Deep.RegionHeld3
import Derived.Laws.Rows
import Derived.Lib.AppendStr
import Derived.ArgAppend
import Derived.Laws.IdiomCopy
import Derived.OrdersHeld
import Derived.Laws.BitsLemmas
import Derived.RowKit
import Derived.StillTailTactics
import Derived.Test.YtefnpecncacepaaDoorWWords
import Derived.Test.YtefnpecncacepaaDoorWLast
import Derived.Test.YtefnpecncacepaaDoorWMore
import Derived.Lib.Hide
import Derived.LaidEql
import Derived.Outline
import Derived.Deep.MidRow
import Derived.Deep.WholeRow
import Derived.Deep.RegionLaw
import Derived.Deep.DrawnRows
import Derived.Test.YtefnpecncacepaaDoorBytes
import Derived.Test.YtefnpecncacepaaDoorSumL
namespace Go.Proofs.YtefnpecncacepaaDoor.Hand
open Go Go.RowKit Go.Proofs.YtefnpecncacepaaDoor.Plain Go.Proofs.YtefnpecncacepaaDoor.PAll Go.Proofs.YtefnpecncacepaaDoorW.PrintWords Go.Proofs.YtefnpecncacepaaDoorW.PrintLast Go.Proofs.YtefnpecncacepaaDoorW.PrintMore
set_option linter.unusedVariables false
set_option linter.unusedSimpArgs false
set_option maxRecDepth 100000
attribute [local go_sem ↓] Go.wp_at_zero Go.wp_at_succ
theorem headB_len (v : Int) (p r : List Int) (t b n : Int) (hp : p.length = 32) (hr : r.length = 32) : (headB v p r t b n).length = 80 := by simp [headB, digs_length, hp, hr]
theorem headB_bytes (v : Int) {p r : List Int} (t b n : Int) (hp : ∀ x ∈ p, 0 ≤ x ∧ x < 256) (hr : ∀ x ∈ r, 0 ≤ x ∧ x < 256) : ∀ x ∈ headB v p r t b n, 0 ≤ x ∧ x < 256 := by
  intro x hx
  simp only [headB, List.mem_append] at hx
  rcases hx with (((h | h | h) | h) | h) | h
  · exact digs_bytes _ _ _ h
  · exact hp x h
  · exact hr x h
  · exact digs_bytes _ _ _ h
  · exact digs_bytes _ _ _ h
  · exact digs_bytes _ _ _ h
theorem hcells_one (v : Int) (p r : List Int) (t b n : Int) : (hcells v p r t b n).toArray.all (·.oneCell') = true := by
  refine all_oneCell_toArray fun x hx => ?_
  simp only [hcells, List.mem_cons, List.mem_append, List.mem_nil_iff, or_false] at hx
  rcases hx with rfl | h | h | rfl | rfl | rfl
  · rfl
  · exact nums_one _ _ x h
  · exact nums_one _ _ x h
  · rfl
  · rfl
  · rfl
set_option maxHeartbeats 4000000 in
theorem hhash_calls (v : Int) (p r : List Int) (t b n : Int) (w : World) (hp : p.length = 32) (hr : r.length = 32) (hv0 : 0 ≤ v) (hv1 : v < 4294967296) (ht0 : 0 ≤ t) (ht1 : t < 4294967296) (hb0 : 0 ≤ b) (hb1 : b < 4294967296) (hn0 : 0 ≤ n) (hn1 : n < 4294967296)
    (bp : ∀ x ∈ p, 0 ≤ x ∧ x < 256) (br : ∀ x ∈ r, 0 ≤ x ∧ x < 256) (hK : KT w) :
    Calls Tryd.prog 7 #[hV v p r t b n] w fun e w' => e = .returned (.agg (nums .u8 (twiceP (headB v p r t b n))).toArray) ∧ Below w.heap.size w w' := by
  have HBC := Lib.hid (fun W => hbytes_calls v p r t b n W hp hr hv0 hv1 ht0 ht1 hb0 hb1 hn0 hn1)
  have hbl := headB_len v p r t b n hp hr
  have hbb := headB_bytes v t b n bp br
  obtain ⟨HB, hHB⟩ : ∃ l, headB v p r t b n = l := ⟨_, rfl⟩
  rw [hHB] at HBC hbl hbb ⊢
  have HLB := Lib.hid (And.intro hbl hbb)
  have HK := Lib.hid hK
  have hz31 := (zero_of_info infoHash).1
  obtain ⟨Z0, hZ0⟩ : ∃ C, (nums .u8 (List.replicate 32 0)).toArray = C := ⟨_, rfl⟩
  rw [hZ0] at hz31
  have HZ0 := Lib.hid hZ0
  have hci : (Tryd.prog.info? 26).map (·.size) = some (hcells v p r t b n).toArray.size := by
    rw [(zero_of_info infoH).2]
    simp [hcells_len v p r t b n hp hr]
  unfold hV at HBC ⊢
  obtain ⟨C, hC⟩ : ∃ C, (hcells v p r t b n).toArray = C := ⟨_, rfl⟩
  rw [hC] at HBC hci ⊢
  have HCI := Lib.hid hci
  have HU26 := Lib.hid Tryd.underlying26
  have HU31 := Lib.hid Tryd.underlying24
  obtain ⟨RA, hRA⟩ : ∃ R, (nums .u8 (twiceP HB)).toArray = R := ⟨_, rfl⟩
  have hsl : (nums .u8 (twiceP HB)).length = 32 := by simp [nums, twiceP, sumP_len]
  have HRS := Lib.hid (show (Tryd.prog.info? 24).map (·.size) = some RA.size ∧ Z0.size = RA.size ∧ RA.all (·.oneCell') = true by
    have h32 : RA.size = 32 := by rw [← hRA]; exact hsl
    refine ⟨by rw [h32]; exact (zero_of_info infoHash).2, by rw [h32, ← HZ0.out]; rfl, by rw [← hRA]; exact all_oneCell_toArray (nums_one _ _)⟩)
  have HRR := Lib.hid hRA
  have HB1 := Lib.hid (below_alloc (below_alloc (Below.refl w.heap.size w) (.cells C 26)) (.cells Z0 24))
  have HC1 := Lib.hid (heap_alloc2_old w (.cells C 26) (.cells Z0 24))
  have HZ1 := Lib.hid (heap_alloc2_new w (.cells C 26) (.cells Z0 24))
  rw [hRA]
  clear hK hp hr hv0 hv1 ht0 ht1 hb0 hb1 hn0 hn1 bp br hHB hbl hbb hC hci hZ0 hsl hRA
  go_enter Tryd.func7, Tryd.ntmps7
  go_wp2_with ((with_reducible show wpList _ _ _ (Oper.mk _ (Op.load _ _) _ _ _ _ :: _) _ _); (go_loud (refine wpList_load_row rfl 26 (.tmp 1) rfl w.heap.size rfl 26 C (0, 0) _ HC1.out HU26.out rfl HCI.out ?_)))
  refine (HBC.out _).mono ?_
  rintro e w1 ⟨x, rfl, hx, hb1⟩
  obtain ⟨A2, c2, hv, hc2, hC2⟩ := Kd.R_reads hx
  have HZ2 := Lib.hid ((hb1.block _ (blk_lt HZ1.out)).trans HZ1.out)
  have HB2 := Lib.hid (HB1.out.trans (Below.mono hb1 HB1.out.size))
  have HB3 := Lib.hid (HB2.out.alloc HB2.out.size (.cells #[.slice A2 80 c2] 28))
  have HZ3 := Lib.hid (blk_alloc HZ2.out (.cells #[.slice A2 80 c2] 28))
  have ht := twice_calls (some ⟨w1.heap.size, 0, none⟩) 1 1 [HB] (w1.alloc (.cells #[.slice A2 80 c2] 28)) rfl (C_one (A := A2) (c := c2) (ys := HB) (by rw [HLB.out.1]; exact heap_alloc_new w1 _) hc2 (Kd.C_below hC2 (below_alloc (Below.refl _ _) _))) (by simpa using HLB.out.2) (by simp [HLB.out.1]) (by decide) (HK.out.below HB3.out (Nat.le_refl _))
  rw [show [HB].flatten = HB by simp, HRR.out] at ht
  have HT := Lib.hid ht
  rw [HLB.out.1] at hv
  subst hv
  clear hx hb1 hc2 hC2 ht
  go_wp2_with fail
  refine HT.out.mono ?_
  rintro e w5 ⟨rfl, hb5⟩
  have HZ5 := Lib.hid ((hb5.block _ (blk_lt HZ3.out)).trans HZ3.out)
  have HB5 := Lib.hid (HB3.out.trans (Below.mono hb5 HB3.out.size))
  clear hb5
  go_wp2_with ((with_reducible show wpList _ _ _ (Oper.mk _ (Op.store _ _ _) _ _ _ _ :: _) _ _); (go_loud (refine wpList_store_row rfl 24 (.tmp 2) (.tmp 6) rfl (w.heap.size + 1) RA rfl rfl 24 Z0 HZ5.out HRS.out.1 HRS.out.2.1 HRS.out.2.2 ?_)))
  exact bodyPost_ret (results_cell_row rfl _ _ (w.heap.size + 1) 24 RA (0, 0) _ rfl (setRow_heap _ _ _ _ _ _ HZ5.out) HU31.out rfl HRS.out.1) rfl ⟨rfl, below_setRow HB5.out (by omega) _⟩
end Go.Proofs.YtefnpecncacepaaDoor.Hand
