/- The law Sha2Blocks: its walk. -/
import Derived.Test.YtacebcmgdcmmpaaDoorProg
import Derived.Below
import Derived.Deep.Draws
import Derived.Deep.AppendLies
import Derived.Maps.AppendAt
import Derived.OwnWalk
import Derived.Laws.BytesArg
import Derived.Laws.MakeOwn
import Derived.Laws.OwnMore
import Derived.Deep.OwnRows
import Derived.Tactics
import Derived.Lib.ConvBytes
import Derived.Laws.Slices
import Derived.WalkKit
import Derived.KernelRfl
import Derived.RowKit3
import Derived.Deep.LoopGhost
import Derived.Deep.QuietTactic
import Derived.BigQuiet
import Derived.WideLaws
import Derived.Deep.DeepCutAuto
import Derived.Deep.CutBlock
import Derived.Deep.RegionHeld3
import Derived.Laws.Rows
import Derived.Lib.AppendStr
import Derived.ArgAppend
import Derived.Laws.IdiomCopy
import Derived.OrdersHeld
import Derived.Laws.BitsLemmas
import Derived.RowKit
import Derived.StillTailTactics
import Derived.Test.YtacebcmgdcmmpaaDoorWWords
import Derived.Test.YtacebcmgdcmmpaaDoorWLast
import Derived.Test.YtacebcmgdcmmpaaDoorWMore
import Derived.Lib.Hide
import Derived.Outline
import Derived.Deep.MidRow
import Derived.Deep.RegionHeld3
import Derived.Deep.DrawnRows
import Derived.Test.YtacebcmgdcmmpaaDoorArrEq
import Derived.Test.YtacebcmgdcmmpaaDoorStep2
import Derived.Test.YtacebcmgdcmmpaaDoorAwakeS
namespace Go.Proofs.YtacebcmgdcmmpaaDoor.Hand
open Go Go.RowKit Go.Proofs.YtacebcmgdcmmpaaDoor.Plain Go.Proofs.YtacebcmgdcmmpaaDoor.PAll Go.Proofs.YtacebcmgdcmmpaaDoorW.PrintWords Go.Proofs.YtacebcmgdcmmpaaDoorW.PrintLast Go.Proofs.YtacebcmgdcmmpaaDoorW.PrintMore
set_option linter.unusedVariables false
set_option linter.unusedSimpArgs false
theorem slice_b64 (W : World) (g : Nat) : (Instr.sliceAt 24 (.pointer (some ⟨g, 0, none⟩)) none none none).run Tryd.prog W = .ok (.slice (some ⟨g, 0, none⟩) 64 64) W := by
  rw [run_sliceAt_array_all W 24 ⟨g, 0, none⟩ arr64b.1]
  have z : (sizeOf (Tryd.prog.elem 24)).run Tryd.prog W = .ok 1 W := by rfl
  rw [z, arr64b.2]
  rfl
theorem eq8 (s : St) (w : World) : (Op.equalIn 10000 23 (.agg (s8 s)) (.agg (s8 s))).run Tryd.prog w = .ok true w := by
  have h := run_equalIn_nums (P := Tryd.prog) w 9998 23 22 8 .u32 Tryd.underlying23 Tryd.underlying22 (fun w => by rfl) s.l s.l rfl rfl
  rw [beq_self_eq_true] at h
  exact h
attribute [local go_sem ↓] Go.wp_at_zero Go.wp_at_succ
set_option maxHeartbeats 1000000 in
set_option maxRecDepth 100000 in
theorem blocks_calls (s : St) (bs : List Int) (w : World) (hK : KT w) (hs : s.wd) (hl : bs.length = 64) (hb : ∀ x ∈ bs, 0 ≤ x ∧ x < 256) :
    Calls Tryd.prog 3 #[.agg (s8 s), .agg (nums .u8 bs).toArray] w fun e w' => e = .returned (.bool true) ∧ Below w.heap.size w w' := by
  have hba := below_alloc (below_alloc (Below.refl w.heap.size w) (.cells (s8 s) 23)) (.cells (nums .u8 bs).toArray 24)
  have h2 := blk_alloc (heap_alloc_new w (.cells (s8 s) 23)) (.cells (nums .u8 bs).toArray 24)
  have h3 : ((w.alloc (.cells (s8 s) 23)).alloc (.cells (nums .u8 bs).toArray 24)).heap[w.heap.size + 1]? = some (.cells (nums .u8 bs).toArray 24 (0, 0)) := by
    have := heap_alloc_new (w.alloc (.cells (s8 s) 23)) (.cells (nums .u8 bs).toArray 24)
    rw [World.size_alloc] at this
    exact this
  have hsz : ((w.alloc (.cells (s8 s) 23)).alloc (.cells (nums .u8 bs).toArray 24)).heap.size = w.heap.size + 2 := by rw [World.size_alloc, World.size_alloc]
  have hkeep : ∀ u W2 : World, ((w.alloc (.cells (s8 s) 23)).alloc (.cells (nums .u8 bs).toArray 24)) = W2 → Below (w.heap.size + 2) W2 u → (u.cell? ⟨w.heap.size, 0, none⟩ = some (.int .u32 s.a) ∧ u.cell? ⟨w.heap.size, 1, none⟩ = some (.int .u32 s.b) ∧ u.cell? ⟨w.heap.size, 2, none⟩ = some (.int .u32 s.c) ∧ u.cell? ⟨w.heap.size, 3, none⟩ = some (.int .u32 s.d) ∧ u.cell? ⟨w.heap.size, 4, none⟩ = some (.int .u32 s.e) ∧ u.cell? ⟨w.heap.size, 5, none⟩ = some (.int .u32 s.f) ∧ u.cell? ⟨w.heap.size, 6, none⟩ = some (.int .u32 s.g) ∧ u.cell? ⟨w.heap.size, 7, none⟩ = some (.int .u32 s.h)) ∧ u.rangeAt (w.heap.size + 1) 0 (nums .u8 bs) := by
    rintro u W2 rfl hu
    have h2u := (hu.block w.heap.size (by omega)).trans h2
    have h3u := (hu.block (w.heap.size + 1) (by omega)).trans h3
    refine ⟨⟨(blk_cell h2u 0).trans rfl, (blk_cell h2u 1).trans rfl, (blk_cell h2u 2).trans rfl, (blk_cell h2u 3).trans rfl, (blk_cell h2u 4).trans rfl, (blk_cell h2u 5).trans rfl, (blk_cell h2u 6).trans rfl, (blk_cell h2u 7).trans rfl⟩, fun j v hv => ?_⟩
    rw [blk_cell h3u, Nat.zero_add, List.getElem?_toArray]
    exact hv
  have hrow : ∀ u W2 : World, ((w.alloc (.cells (s8 s) 23)).alloc (.cells (nums .u8 bs).toArray 24)) = W2 → Below (w.heap.size + 2) W2 u → Kd.C (Kd.int .u8) u (some ⟨w.heap.size + 1, 0, none⟩) 64 bs := by
    rintro u W2 rfl hu
    have h3u := (hu.block (w.heap.size + 1) (by omega)).trans h3
    have := C_of_block (pre := []) (post := []) (k := .u8) (ys := bs) (o := 0) (t := 24) (fr := (0, 0)) (by rw [List.nil_append, List.append_nil]; exact h3u) rfl (by omega)
    rwa [hl] at this
  obtain ⟨SA, hSA⟩ : ∃ S, s8 s = S := ⟨_, rfl⟩
  rw [hSA] at hba hkeep hrow hsz ⊢
  obtain ⟨BA, hBA⟩ : ∃ B, (nums .u8 bs).toArray = B := ⟨_, rfl⟩
  rw [hBA] at hba hrow hsz ⊢
  simp only [hBA] at hkeep
  obtain ⟨RA, hRA⟩ : ∃ R, s8 (stepS s bs) = R := ⟨_, rfl⟩
  have heq : ∀ W, (Op.equalIn 10000 23 (.agg RA) (.agg RA)).run Tryd.prog W = .ok true W := fun W => by rw [← hRA]; exact eq8 _ W
  have HBC := Lib.hid (fun W (hW : KT W) => (show Calls Tryd.prog 9 #[.agg #[.int .u32 s.a, .int .u32 s.b, .int .u32 s.c, .int .u32 s.d, .int .u32 s.e, .int .u32 s.f, .int .u32 s.g, .int .u32 s.h], .agg (nums .u8 bs).toArray] W fun e w' => e = .returned (.agg RA) ∧ Below W.heap.size W w' from by rw [← hRA]; exact block_calls s bs W hW hs hl hb))
  have HSC := Lib.hid (fun W (hC : Kd.C (Kd.int .u8) W (some ⟨w.heap.size + 1, 0, none⟩) 64 bs) => (show Calls Tryd.prog 10 #[.agg #[.int .u32 s.a, .int .u32 s.b, .int .u32 s.c, .int .u32 s.d, .int .u32 s.e, .int .u32 s.f, .int .u32 s.g, .int .u32 s.h], .slice (some ⟨w.heap.size + 1, 0, none⟩) 64 64] W fun e w' => e = .returned (.agg RA) ∧ Below W.heap.size W w' from by rw [← hRA]; exact step_calls s _ 64 bs W hs hC (by decide) hl hb))
  have HI := Lib.hid (show (Tryd.prog.info? 24).map (·.size) = some (nums .u8 bs).length from by rw [info_b64]; simp [nums, hl])
  have hu64 := Tryd.underlying24
  have hinf := HI.out
  have HK := Lib.hid hK
  have hsl := fun W => slice_b64 W (w.heap.size + 1)
  go_enter Tryd.func3, Tryd.ntmps3
  go_wp2_with fail
  obtain ⟨W2, hW2⟩ : ∃ W, (w.alloc (.cells SA 23)).alloc (.cells BA 24) = W := ⟨_, rfl⟩
  rw [hW2] at hba ⊢
  have HKEEP := Lib.hid (fun u hu => hkeep u W2 hW2 hu)
  have HROW := Lib.hid (fun u hu => hrow u W2 hW2 hu)
  have HSZ := Lib.hid (show W2.heap.size = w.heap.size + 2 by rw [← hW2]; exact hsz)
  have HB2 := Lib.hid hba
  have HBD := Lib.hid (show Below (w.heap.size + 2) W2 W2.drew from by rw [← HSZ.out]; exact below_drew (Below.refl _ _))
  clear hba h2 h3 hsz hkeep hrow hSA hBA hRA hs hl hb hK hW2
  go_region_held3 (fun u => (u.cell? ⟨w.heap.size, 0, none⟩ = some (.int .u32 s.a) ∧ u.cell? ⟨w.heap.size, 1, none⟩ = some (.int .u32 s.b) ∧ u.cell? ⟨w.heap.size, 2, none⟩ = some (.int .u32 s.c) ∧ u.cell? ⟨w.heap.size, 3, none⟩ = some (.int .u32 s.d) ∧ u.cell? ⟨w.heap.size, 4, none⟩ = some (.int .u32 s.e) ∧ u.cell? ⟨w.heap.size, 5, none⟩ = some (.int .u32 s.f) ∧ u.cell? ⟨w.heap.size, 6, none⟩ = some (.int .u32 s.g) ∧ u.cell? ⟨w.heap.size, 7, none⟩ = some (.int .u32 s.h)) ∧ u.rangeAt (w.heap.size + 1) 0 (nums .u8 bs)) (first | exact HKEEP.out _ HB9.out | exact HKEEP.out _ HB8.out | exact HKEEP.out _ HB7.out | exact HKEEP.out _ HBD.out)
    (first
      | (go_at_call 9; (with_reducible refine (HBC.out _ (HK.out.below (HB2.out.trans (Below.mono HBD.out (by omega))) (Nat.le_refl _))).mono ?_); rintro e w7 ⟨rfl, hb7⟩; have HB7 := Lib.hid (HBD.out.trans (Below.mono hb7 (by have := HSZ.out; show w.heap.size + 2 ≤ W2.heap.size; omega))); have HQ7 := Lib.hid (show w.heap.size + 2 ≤ w7.heap.size by have := hb7.size; have := HSZ.out; have h9 : W2.drew.heap.size = W2.heap.size := rfl; omega); clear hb7)
      | (go_at_call 10; (with_reducible refine (HSC.out _ (HROW.out _ HB7.out)).mono ?_); rintro e w8 ⟨rfl, hb8⟩; have HB8 := Lib.hid (HB7.out.trans (Below.mono hb8 HQ7.out)); have HQ8 := Lib.hid (show w.heap.size + 2 ≤ w8.heap.size by have := hb8.size; have := HQ7.out; omega); clear hb8)
      | (go_at_call 11; (with_reducible refine (awake_calls _ (HK.out.below (HB2.out.trans (Below.mono HB8.out (by omega))) (Nat.le_refl _))).mono ?_); rintro e w9 ⟨rfl, hb9⟩; have HB9 := Lib.hid (HB8.out.trans (Below.mono hb9 HQ8.out)); clear hb9))
  all_goals
    have HBF := Lib.hid (HB2.out.trans (Below.mono HB9.out (by omega)))
    clear HB9 HB8 HB7 HQ7 HQ8 hu64 hinf hsl heq
    go_wp2
    go_ret
    exact ⟨rfl, HBF.out⟩
end Go.Proofs.YtacebcmgdcmmpaaDoor.Hand
