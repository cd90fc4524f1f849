/- The hasher is written to. -/
import Derived.Test.YtefnpecncacepaaDoorProg
import Derived.Below
import Derived.Deep.Draws
import Derived.Deep.AppendLies
import Derived.Maps.AppendAt
import Derived.OwnWalk
import Derived.Laws.BytesArg
import Derived.Laws.MakeOwn
import Derived.Laws.OwnMore
import Derived.Deep.OwnRows
import Derived.Tactics
import Derived.Lib.ConvBytes
import Derived.Laws.Slices
import Derived.WalkKit
import Derived.KernelRfl
import Derived.RowKit3
import Derived.Deep.LoopGhost
import Derived.Deep.QuietTactic
import Derived.BigQuiet
import Derived.WideLaws
import Derived.Deep.DeepCutAuto
import Derived.Deep.CutBlock
import Derived.Deep.RegionHeld3
import Derived.Laws.Rows
import Derived.Lib.AppendStr
import Derived.ArgAppend
import Derived.Laws.IdiomCopy
import Derived.OrdersHeld
import Derived.Laws.BitsLemmas
import Derived.RowKit
import Derived.StillTailTactics
import Derived.Test.YtefnpecncacepaaDoorWWords
import Derived.Test.YtefnpecncacepaaDoorWLast
import Derived.Test.YtefnpecncacepaaDoorWMore
import Derived.Lib.Hide
import Derived.Outline
import Derived.StillTailTactics
import Derived.Deep.MidRow
import Derived.Deep.WholeRow
import Derived.Deep.RegionLaw
import Derived.Laws.Tables
import Derived.Deep.DrawnRows
import Derived.Test.YtefnpecncacepaaDoorHasher
namespace Go.Proofs.YtefnpecncacepaaDoor.Hand
open Go Go.RowKit Go.Proofs.YtefnpecncacepaaDoor.Plain Go.Proofs.YtefnpecncacepaaDoor.PAll Go.Proofs.YtefnpecncacepaaDoorW.PrintWords Go.Proofs.YtefnpecncacepaaDoorW.PrintLast Go.Proofs.YtefnpecncacepaaDoorW.PrintMore
set_option linter.unusedVariables false
set_option linter.unusedSimpArgs false
set_option maxRecDepth 100000
/-- Bytes that are read, not out of block g. -/
def SrcRow (w : World) (g : Nat) (A : Option Addr) (ys : List Int) : Prop := ∃ ad : Addr, 0 < ys.length → A = some ad ∧ ad.block ≠ g ∧ ad.block < w.heap.size ∧ ∀ j : Nat, j < ys.length → w.cell? (ad.add j) = some (.int .u8 (rd ys (j : Int)))
theorem add_block (ad : Addr) (j : Nat) : (ad.add j).block = ad.block := by unfold Addr.add; split <;> rfl
theorem add_add (ad : Addr) (i j : Nat) : (ad.add i).add j = ad.add (i + j) := by
  by_cases hi : i = 0
  · subst hi
    simp [Addr.add]
  · by_cases hj : j = 0
    · subst hj
      simp [Addr.add, hi]
    · simp [Addr.add, hi, hj, show i + j ≠ 0 by omega]
      omega
theorem SrcRow.of {w : World} {g : Nat} {A : Option Addr} {ys : List Int} (h : Kd.C (Kd.int .u8) w A ys.length ys) (hg : ∀ ad, A = some ad → ad.block ≠ g) : SrcRow w g A ys := by
  by_cases h0 : 0 < ys.length
  · obtain ⟨ad, hA, hc⟩ := C_cells h h0
    refine ⟨ad, fun _ => ⟨hA, hg ad hA, ?_, fun j hj => hc j _ (by simp [nums, rd, hj])⟩⟩
    have := block_lt_of_cell (hc 0 (.int .u8 (rd ys 0)) (by simp [nums, rd, h0]))
    rwa [add_block] at this
  · exact ⟨⟨0, 0, none⟩, fun h => absurd h h0⟩
theorem slice_h (W : World) (g at_ : Nat) (ha : at_ < 64) : (Instr.sliceAt 103 (.pointer (some ⟨g, 8, none⟩)) (some (.int .i64 (at_ : Int))) none none).run Tryd.prog W = .ok (.slice (some ⟨g, 8 + at_, none⟩) (64 - at_) (64 - at_)) W := by
  rw [run_sliceAt_array_l W 103 ⟨g, 8, none⟩ arr64b.1 .i64 at_ (by omega) (by rw [arr64b.2]; omega)]
  have z : (sizeOf (Tryd.prog.elem 103)).run Tryd.prog W = .ok 1 W := by rfl
  rw [z, arr64b.2]
  simp only [slicedAt, Result.andThen, Int.toNat_natCast, Nat.mul_one, Addr.add_mid]
  rw [if_neg (by omega)]
theorem slice_t (W : World) (A : Option Addr) (m c k : Nat) (hk : k ≤ m) : (Instr.sliceAt 28 (.slice A m c) (some (.int .i64 (k : Int))) none none).run Tryd.prog W = .ok (.slice (if c = k then A else A.map (·.add k)) (m - k) (c - k)) W := by
  have hu : Tryd.prog.underlying 28 = some (.slice (Tryd.prog.elem 28)) := by kernel_rfl
  rw [run_sliceAt_slice W 28 _ _ _ _ hu, run_slice_l W 28 A m c hu .i64 k (by omega) (by omega)]
  have z : (sizeOf (Tryd.prog.elem 28)).run Tryd.prog W = .ok 1 W := by rfl
  rw [z]
  simp [sliced, Result.andThen]
attribute [local go_sem ↓] Go.wp_at_zero Go.wp_at_succ
set_option maxHeartbeats 600000 in
set_option maxRecDepth 100000 in
theorem write_calls {w : World} {B g : Nat} {bs : List Int} (h : IsH w B g bs) (A : Option Addr) (c n : Nat) (ys : List Int) (hn : ys.length = n) (hr : SrcRow w g A ys) (hc : n ≤ c) (hy : ∀ x ∈ ys, 0 ≤ x ∧ x < 256) (hl : bs.length + n ≤ 1000000) (hB : B ≤ w.heap.size) (hK : KT w) (hKB : 0 < B) :
    Calls Tryd.prog 52 #[.pointer (some ⟨g, 0, none⟩), .slice A n c] w fun e w' => e = .returned (.tuple #[]) ∧ IsH w' B g (bs ++ ys) ∧ Below B w w' ∧ KeepBut w w' g none := by
  obtain ⟨ad, had⟩ := hr
  rw [hn] at had
  have HAD := Lib.hid had
  have HN := Lib.hid hn
  have HY := Lib.hid hy
  have HL := Lib.hid hl
  have HH := Lib.hid h
  have HBS := Lib.hid hB
  have HLT := Lib.hid h.lt
  have HBG := Lib.hid h.1
  have HK := Lib.hid hK
  have HU := Lib.hid Tryd.underlying28
  have HS1 := Lib.hid (show (Tryd.prog.info? 5).map (·.size) = some 1 by kernel_rfl)
  have HKB := Lib.hid hKB
  clear had hn hy hl h hB hK hKB
  go_enter Tryd.func52, Tryd.ntmps52
  go_wp2_with fail
  go_loopw [1] (fun v wr => ∃ (j : Nat) (A' : Option Addr) (c' : Nat), j ≤ n ∧ v = .slice A' (n - j) c' ∧ n - j ≤ c' ∧ (j < n → A' = some (ad.add j)) ∧ Hid (IsH wr B g (bs ++ ys.take j) ∧ Below B w wr ∧ KeepBut w wr g none)) (fun v _ => match v with | .slice _ m _ => m | _ => 0)
  case atStart => exact ⟨0, A, c, by omega, rfl, by omega, fun h => by rw [(HAD.out h).1]; rfl, Lib.hid ⟨by rw [List.take_zero, List.append_nil]; exact HH.out, ⟨rfl, rfl, rfl, Nat.le_refl _, fun _ _ => rfl⟩, KeepBut.refl _ _ _⟩⟩
  case round =>
    obtain ⟨j, A', c', hj, rfl, hc', hA', H⟩ := hrel
    by_cases hlt : j < n
    · obtain ⟨hih, hbl, hkb⟩ := H.out
      have hAe := hA' hlt
      subst hAe
      obtain ⟨hBg, blk, hblk, hcell⟩ := hih
      obtain ⟨L, hL⟩ : ∃ L, bs ++ ys.take j = L := ⟨_, rfl⟩
      rw [hL] at hblk hcell
      have hll : L.length = bs.length + j := by rw [← hL]; simp [HN.out]; omega
      obtain ⟨at_, hat⟩ : ∃ x, L.length % 64 = x := ⟨_, rfl⟩
      have hat64 : at_ < 64 := by omega
      obtain ⟨m, hm⟩ : ∃ m, n - j = m := ⟨_, rfl⟩
      rw [hm] at hc' ⊢
      obtain ⟨k, hk⟩ : ∃ k, Nat.min m (64 - at_) = k := ⟨_, rfl⟩
      have hkm : k ≤ m := by rw [← hk]; exact Nat.min_le_left _ _
      have hk64 : k ≤ 64 - at_ := by rw [← hk]; exact Nat.min_le_right _ _
      have hk0 : 0 < k := by rw [← hk]; exact Nat.lt_min.2 ⟨by omega, by omega⟩
      obtain ⟨zs, hzs⟩ : ∃ zs, (ys.drop j).take k = zs := ⟨_, rfl⟩
      have hzl : zs.length = k := by rw [← hzs]; simp [HN.out]; omega
      have hzb : ∀ x ∈ zs, 0 ≤ x ∧ x < 256 := fun x hx => HY.out x (List.mem_of_mem_drop (List.mem_of_mem_take (by rw [hzs]; exact hx)))
      have hLz : L ++ zs = bs ++ ys.take (j + k) := by
        rw [← hL, ← hzs, List.append_assoc, ← List.take_add]
      have hsrc : ∀ i v, (nums .u8 zs)[i]? = some v → wr.cell? ((ad.add j).add i) = some v := by
        intro i v hv
        obtain ⟨hA1, hA2, hA3, hA4⟩ := HAD.out (by omega)
        have hi : i < k := by
          have := (List.getElem?_eq_some_iff.1 hv).1
          simpa [nums, hzl] using this
        have h1 := hA4 (j + i) (by omega)
        rw [add_add]
        have h2 : wr.cell? (ad.add (j + i)) = w.cell? (ad.add (j + i)) := World.cell?_of_block (hkb.2 _ (by rw [add_block]; exact hA3) (by rw [add_block]; exact hA2) (by simp))
        have h3 : j + i < ys.length := by rw [HN.out]; omega
        have h4 : rd ys ((j + i : Nat) : Int) = ys[j + i] := by
          unfold rd
          rw [Int.toNat_natCast]
          simp [h3]
        rw [h2, h1, h4, ← hv, ← hzs]
        simp [nums, hi, List.getElem?_take, List.getElem?_drop, h3]
      obtain ⟨st, hst⟩ : ∃ st, stOf L = st := ⟨_, rfl⟩
      have hwd : st.wd := by rw [← hst]; exact stOf_wd L
      rw [hst] at hcell
      obtain ⟨nL, hnL⟩ : ∃ x : Int, (L.length : Int) = x := ⟨_, rfl⟩
      rw [hnL] at hcell
      have hn0 : 0 ≤ nL := by omega
      have hn1 : nL ≤ 1000000 := by have := HL.out; omega
      have hrem : nL % 64 = (at_ : Int) := by omega
      have hrem2 : nL.tmod 64 = (at_ : Int) := by rw [Int.tmod_eq_emod_of_nonneg hn0]; exact hrem
      have hrem3 : IntKind.i64.wrap (at_ : Int) = (at_ : Int) := by rw [IntKind.wrap_i64]; omega
      have c72 := (blk_cell hcell 72).trans (hc_n hblk.1)
      have hspl := hc_splice (s := st) (n := nL) (o := at_) hblk.1 (zs := zs) (by omega)
      obtain ⟨CA, hCA⟩ : ∃ C, (hCells st blk nL).toArray = C := ⟨_, rfl⟩
      have hCAs : CA.size = 73 := by rw [← hCA]; simp [hc_len hblk.1]
      rw [hCA] at hcell hspl
      obtain ⟨NA, hNA⟩ : ∃ C, (hCells st (putB blk at_ zs) nL).toArray = C := ⟨_, rfl⟩
      have hb2 : (putB blk at_ zs).length = 64 := putB_len hblk.1 (by omega)
      have hset : (wr.setRow g NA).heap[g]? = some (.cells NA 105 (0, 0)) := setRow_heap _ _ _ _ _ _ hcell
      have d72 := (blk_cell hset 72).trans (show NA[72]? = some (.int .i64 nL) by rw [← hNA]; exact hc_n hb2)
      have f72 := blk_frozen hset 72
      have hset2 := blk_set hset 72 (.int .i64 (nL + (k : Int)))
      rw [← hNA, hc_setn hb2, hNA] at hset2
      have hother : ∀ i, i ≠ g → ((wr.setRow g NA).setCell ⟨g, 72, none⟩ (.int .i64 (nL + (k : Int)))).heap[i]? = wr.heap[i]? := fun i hi => (Below.heap_setCell _ ⟨g, 72, none⟩ _ i hi).trans (setRow_other _ _ _ _ hi)
      have hbw : Below B w ((wr.setRow g NA).setCell ⟨g, 72, none⟩ (.int .i64 (nL + (k : Int)))) := (below_setRow hbl hBg _).setCell (p := ⟨g, 72, none⟩) hBg _
      have hsz : ((wr.setRow g NA).setCell ⟨g, 72, none⟩ (.int .i64 (nL + (k : Int)))).heap.size = wr.heap.size := by rw [World.size_setCell]; simp [World.setRow]
      have hs := fun W => slice_h W g at_ hat64
      have hs2 := fun W => slice_t W (some (ad.add j)) m c' k hkm
      obtain ⟨A2, hA2⟩ : ∃ A2, (if c' = k then some (ad.add j) else (some (ad.add j)).map (·.add k)) = A2 := ⟨_, rfl⟩
      rw [hA2] at hs2
      have hA3 : j + k < n → A2 = some (ad.add (j + k)) := fun h => by
        rw [← hA2, if_neg (by omega)]
        show some ((ad.add j).add k) = _
        rw [add_add]
      have HCELL := Lib.hid hcell
      have HSRC := Lib.hid hsrc
      have HFIT := Lib.hid (show 8 + at_ + (nums .u8 zs).length ≤ CA.size by simp only [nums, List.length_map]; omega)
      have HCN := Lib.hid (show (nums .u8 zs).length = Nat.min m (64 - at_) by simp only [nums, List.length_map]; rw [hk]; exact hzl)
      have HSPL := Lib.hid (show (CA.toList.take (8 + at_) ++ (nums .u8 zs ++ CA.toList.drop (8 + at_ + (nums .u8 zs).length))).toArray = NA by rw [hspl, hNA])
      have HZL := Lib.hid (show (nums .u8 zs).length = k by simp only [nums, List.length_map]; exact hzl)
      have HOTH := Lib.hid (And.intro hother (And.intro hbw hsz))
      have HSET := Lib.hid hset2
      have HKB2 := Lib.hid hkb
      have HBLK := Lib.hid hblk
      have HLZ := Lib.hid (And.intro hLz (And.intro hzl (And.intro hzb (And.intro hb2 (And.intro hat (And.intro hnL (And.intro hst (And.intro hNA hwd))))))))
      have HA3 := Lib.hid hA3
      have HAK := Lib.hid (show at_ + k ≤ 64 by omega)
      have HJ := Lib.hid (show j + k ≤ n ∧ n - (j + k) = m - k ∧ m - k ≤ c' - k ∧ m - k < m by omega)
      have m0 : decide (m = 0) = false := decide_eq_false (by omega)
      have m1 : (0 : Int) < (m : Int) := by omega
      have k1 : (0 : Int) ≤ (k : Int) := by omega
      have k2 : (k : Int) ≤ 64 := by omega
      have a1 : (at_ : Int) < 64 := by omega
      by_cases hfull : at_ + k = 64
      · have hye : ((at_ : Int) + (k : Int) == 64) = true := by rw [beq_iff_eq]; omega
        have hyi : (at_ : Int) + (k : Int) = 64 := by omega
        have HFU := Lib.hid hfull
        clear hbl hkb hblk hcell hL hll hat hm hk hkm hk64 hk0 hzs hzl hzb hLz hsrc hst hwd hnL hspl hCA hCAs hNA hb2 hset hset2 hother hbw hsz hA2 hA3 H hA' hBg
        go_wp2_with ((with_reducible refine gate_builtin (b := .copy) (xs := #[.tmp 18, .tmp 19]) rfl ?_); (go_loud (refine wpList_copy_own rfl (.tmp 18) (.tmp 19) 28 28 rfl 5 HU.out HS1.out g (8 + at_) (64 - at_) (64 - at_) (ad.add j) m c' rfl rfl CA 105 HCELL.out (nums .u8 zs) HCN.out HSRC.out HFIT.out (nums_one _ _) ?_)); rw [HSPL.out, HZL.out])
        obtain ⟨W4, hW4⟩ : ∃ W, ((wr.setRow g NA).setCell ⟨g, 72, none⟩ (.int .i64 (nL + (k : Int)))) = W := ⟨_, rfl⟩
        rw [hW4] at HSET HOTH ⊢
        obtain ⟨pb, hpb⟩ : ∃ pb, putB blk at_ zs = pb := ⟨_, rfl⟩
        have hz := HLZ.out
        have hp := blk_full HBLK.out hz.2.2.1 (by rw [hz.2.2.2.2.1, hz.2.1]; exact HFU.out)
        rw [hz.2.2.2.2.1, hz.1, hz.2.2.2.2.2.2.1, hpb] at hp
        have hlen : ((bs ++ ys.take (j + k)).length : Int) = nL + (k : Int) := by rw [← hz.1, List.length_append, hz.2.1, ← hz.2.2.2.2.2.1]; simp
        have hset := HSET.out
        rw [hpb] at hset
        have hsetd : W4.drew.heap[g]? = some (.cells (hCells st pb (nL + (k : Int))).toArray 105 (0, 0)) := hset
        have hwd : st.wd := hz.2.2.2.2.2.2.2.2
        have hpl : pb.length = 64 := hp.1.1
        have hr1 : W4.drew.rangeAt g 0 (words st) := fun i v hv => by
          rw [blk_cell hsetd, Nat.zero_add]
          unfold hCells
          rw [List.getElem?_toArray, List.getElem?_append_left (List.getElem?_eq_some_iff.1 hv).1]
          exact hv
        have hr2 : W4.drew.rangeAt g 8 (nums .u8 pb) := fun i v hv => by
          rw [blk_cell hsetd]
          unfold hCells
          rw [List.getElem?_toArray, List.getElem?_append_right (by simp [words]), show 8 + i - (words st).length = i by simp [words], List.getElem?_append_left (List.getElem?_eq_some_iff.1 hv).1]
          exact hv
        have HR1 := Lib.hid (And.intro hr1 (And.intro Tryd.underlying95 (show (Tryd.prog.info? 95).map (·.size) = some (words st).length by rw [s8_size st]; rfl)))
        have HR2 := Lib.hid (And.intro hr2 (And.intro Tryd.underlying103 (show (Tryd.prog.info? 103).map (·.size) = some (nums .u8 pb).length by rw [info_b64]; simp [nums, hpl])))
        have hbc := block_calls st pb W4.drew (KT.of_block HK.out (HOTH.out.2.1.block _ HKB.out)) hwd hpl hp.1.2.1
        obtain ⟨RA, hRA⟩ : ∃ R, s8 (stepS st pb) = R := ⟨_, rfl⟩
        have hst5 : ∀ w5, Below W4.drew.heap.size W4.drew w5 → w5.there g 0 RA.size := fun w5 hb5 i hi => by
          have hg5 := (hb5.block g (blk_lt hsetd)).trans hsetd
          have hi8 : i < 8 := by rw [← hRA] at hi; exact hi
          have h73 : (hCells st pb (nL + (k : Int))).toArray.size = 73 := by simp [hc_len hpl]
          have hi9 : 0 + i < (hCells st pb (nL + (k : Int))).toArray.size := by rw [h73]; omega
          refine ⟨?_, blk_frozen hg5 _⟩
          rw [blk_cell hg5, Array.getElem?_eq_getElem hi9]
          rfl
        have HRS := Lib.hid (show (Tryd.prog.info? 95).map (·.size) = some RA.size ∧ RA.all (·.oneCell') = true by rw [← hRA]; exact ⟨s8_size _, s8_one _⟩)
        have hfin : ∀ w5, Below W4.drew.heap.size W4.drew w5 → IsH (w5.setCells g 0 RA.toList) B g (bs ++ ys.take (j + k)) ∧ Below B w (w5.setCells g 0 RA.toList) ∧ KeepBut w (w5.setCells g 0 RA.toList) g none := fun w5 hb5 => by
          have hg5 := (hb5.block g (blk_lt hsetd)).trans hsetd
          have h9 := heap_setCells_at g 105 RA.toList 0 w5 [] (words st) (nums .u8 pb ++ [.int .i64 (nL + (k : Int))]) (by simpa [hCells] using hg5) rfl (by rw [← hRA]; rfl)
          have hsz := HOTH.out.2.2
          have hBs : B ≤ W4.drew.heap.size := by
            show B ≤ W4.heap.size
            rw [hsz]
            exact Nat.le_trans HBS.out HKB2.out.1
          refine ⟨⟨HBG.out, pb, hp.1, ?_⟩, below_setCells' HBG.out _ _ _ ((below_drew HOTH.out.2.1).trans (Below.mono hb5 hBs)), ?_, fun i hi hg hr => ?_⟩
          · rw [hp.2, hlen, h9, ← hRA]
            rfl
          · rw [size_setCells']
            have h1 := hb5.size
            have h2 := HKB2.out.1
            have h3 : W4.drew.heap.size = wr.heap.size := hsz
            omega
          · rw [heap_setCells_ne _ _ _ _ _ hg, hb5.block i (by show i < W4.heap.size; rw [hsz]; exact Nat.lt_of_lt_of_le hi HKB2.out.1)]
            show W4.heap[i]? = _
            rw [HOTH.out.1 i hg]
            exact HKB2.out.2 i hi hg hr
        have HFIN := Lib.hid hfin
        have HST5 := Lib.hid hst5
        have HBC := Lib.hid hbc
        rw [hRA, ← words_s8 st] at HBC
        clear hW4 hpb hz hp hlen hset hsetd hwd hpl hr1 hr2 hbc hRA hst5 hfin hs hs2 hrem hrem2 hrem3 c72 d72 f72 hye hyi
        refine wp_region_any (by kernel_rfl) ?_
        change wpAny _ _ _ _ _ _ _ (World.drew _)
        refine wpAny_take (i := 0) (oi := ({ dst := some 36, op := Go.Op.move (Go.Operand.tmp 0), type := 91, pos := "sha2.go:86", after := #[], guard := none } : Oper)) (v := .pointer (some ⟨g, 0, none⟩)) rfl (by kernel_rfl) (by kernel_rfl) (by kernel_rfl) (fun _ _ _ h => h) (Or.inl ⟨by rfl, fun w => by go_simp⟩) ?_
        simp only [Act.put, List.setIfInBounds_toArray, List.set_cons_zero, List.set_cons_succ]
        refine wpAny_take (i := 1) (oi := ({ dst := some 37, op := Go.Op.move (Go.Operand.tmp 0), type := 91, pos := "sha2.go:86", after := #[], guard := none } : Oper)) (v := .pointer (some ⟨g, 0, none⟩)) rfl (by kernel_rfl) (by kernel_rfl) (by kernel_rfl) (fun _ _ _ h => h) (Or.inl ⟨by rfl, fun w => by go_simp⟩) ?_
        simp only [Act.put, List.setIfInBounds_toArray, List.set_cons_zero, List.set_cons_succ]
        refine wpAny_take (i := 2) (oi := ({ dst := some 38, op := Go.Op.nilCheck (Go.Operand.tmp 37), type := 0, pos := "sha2.go:86", after := #[{ on := 1, ground := Go.Ground.data }], guard := none } : Oper)) (v := .pointer (some ⟨g, 0, none⟩)) rfl (by kernel_rfl) (by kernel_rfl) (by kernel_rfl) (fun _ _ _ h => h) (Or.inl ⟨by rfl, fun w => by go_simp⟩) ?_
        simp only [Act.put, List.setIfInBounds_toArray, List.set_cons_zero, List.set_cons_succ]
        refine wpAny_take (i := 3) (oi := ({ dst := some 39, op := Go.Op.fieldAddr 105 (Go.Operand.tmp 38) 0, type := 0, pos := "sha2.go:86", after := #[{ on := 2, ground := Go.Ground.data }], guard := none } : Oper)) (v := .pointer (some ⟨g, 0, none⟩)) rfl (by kernel_rfl) (by kernel_rfl) (by kernel_rfl) (fun _ _ _ h => h) (Or.inl ⟨by rfl, fun w => by go_simp⟩) ?_
        simp only [Act.put, List.setIfInBounds_toArray, List.set_cons_zero, List.set_cons_succ]
        refine wpAny_take (i := 5) (oi := ({ dst := some 41, op := Go.Op.move (Go.Operand.tmp 0), type := 91, pos := "sha2.go:86", after := #[], guard := none } : Oper)) (v := .pointer (some ⟨g, 0, none⟩)) rfl (by kernel_rfl) (by kernel_rfl) (by kernel_rfl) (fun _ _ _ h => h) (Or.inl ⟨by rfl, fun w => by go_simp⟩) ?_
        simp only [Act.put, List.setIfInBounds_toArray, List.set_cons_zero, List.set_cons_succ]
        refine wpAny_take (i := 6) (oi := ({ dst := some 42, op := Go.Op.nilCheck (Go.Operand.tmp 41), type := 0, pos := "sha2.go:86", after := #[{ on := 5, ground := Go.Ground.data }], guard := none } : Oper)) (v := .pointer (some ⟨g, 0, none⟩)) rfl (by kernel_rfl) (by kernel_rfl) (by kernel_rfl) (fun _ _ _ h => h) (Or.inl ⟨by rfl, fun w => by go_simp⟩) ?_
        simp only [Act.put, List.setIfInBounds_toArray, List.set_cons_zero, List.set_cons_succ]
        refine wpAny_take (i := 7) (oi := ({ dst := some 43, op := Go.Op.fieldAddr 105 (Go.Operand.tmp 42) 1, type := 0, pos := "sha2.go:86", after := #[{ on := 6, ground := Go.Ground.data }], guard := none } : Oper)) (v := .pointer (some ⟨g, 8, none⟩)) rfl (by kernel_rfl) (by kernel_rfl) (by kernel_rfl) (fun _ _ _ h => h) (Or.inl ⟨by rfl, fun w => by go_simp⟩) ?_
        simp only [Act.put, List.setIfInBounds_toArray, List.set_cons_zero, List.set_cons_succ]
        refine wpAny_ready (rs := [4, 8]) (by kernel_rfl) (by simp) ?_
        refine AllReady.cons (o := ({ dst := some 40, op := Go.Op.load 95 (Go.Operand.tmp 39), type := 95, pos := "sha2.go:86", after := #[{ on := 3, ground := Go.Ground.data }], guard := none } : Oper)) rfl (fun K hK => ?_) (AllReady.cons (o := ({ dst := some 44, op := Go.Op.load 103 (Go.Operand.tmp 43), type := 103, pos := "sha2.go:86", after := #[{ on := 7, ground := Go.Ground.data }], guard := none } : Oper)) rfl (fun K hK => ?_) AllReady.nil)
        · rw [if_pos (by rfl)]
          refine wp_load_mid 95 (.tmp 39) rfl g 0 rfl (words st) _ HR1.out.1 HR1.out.2.1 rfl HR1.out.2.2 ?_
          simp only [Act.put, List.setIfInBounds_toArray, List.set_cons_zero, List.set_cons_succ]
          refine hK _ _ ?_
          clear hK K
          refine wpAny_ready (rs := [8]) (by kernel_rfl) (by simp) ?_
          refine AllReady.cons (o := ({ dst := some 44, op := Go.Op.load 103 (Go.Operand.tmp 43), type := 103, pos := "sha2.go:86", after := #[{ on := 7, ground := Go.Ground.data }], guard := none } : Oper)) rfl (fun K hK => ?_) AllReady.nil
          rw [if_pos (by rfl)]
          refine wp_load_mid 103 (.tmp 43) rfl g 8 rfl (nums .u8 pb) _ HR2.out.1 HR2.out.2.1 rfl HR2.out.2.2 ?_
          simp only [Act.put, List.setIfInBounds_toArray, List.set_cons_zero, List.set_cons_succ]
          refine hK _ _ ?_
          clear hK K
          refine wpAny_ready (rs := [9]) (by kernel_rfl) (by simp) ?_
          refine AllReady.cons (o := ({ dst := some 45, op := Go.Op.call { callee := Go.Callee.value (Go.Operand.func 62), args := #[Go.Operand.tmp 40, Go.Operand.tmp 44], argTypes := #[95, 103] }, type := 95, pos := "sha2.go:86", after := #[{ on := 4, ground := Go.Ground.data }, { on := 8, ground := Go.Ground.data }], guard := none } : Oper)) rfl (fun K hK => ?_) AllReady.nil
          go_simp
          go_at_call 62
          (with_reducible refine HBC.out.mono ?_)
          rintro e w5 ⟨rfl, hb5⟩
          have HFI := Lib.hid (HFIN.out w5 hb5)
          have HTH := Lib.hid (HST5.out w5 hb5)
          clear hb5
          go_wp2_with fail
          refine wpAny_take (i := 10) (oi := ({ dst := some 46, op := Go.Op.nilCheck (Go.Operand.tmp 36), type := 0, pos := "sha2.go:86", after := #[{ on := 0, ground := Go.Ground.data }, { on := 0, ground := Go.Ground.phase }, { on := 1, ground := Go.Ground.phase }, { on := 2, ground := Go.Ground.phase }, { on := 3, ground := Go.Ground.phase }, { on := 4, ground := Go.Ground.phase }, { on := 5, ground := Go.Ground.phase }, { on := 6, ground := Go.Ground.phase }, { on := 7, ground := Go.Ground.phase }, { on := 8, ground := Go.Ground.phase }, { on := 9, ground := Go.Ground.phase }], guard := none } : Oper)) (v := .pointer (some ⟨g, 0, none⟩)) rfl (by kernel_rfl) (by kernel_rfl) (by kernel_rfl) (fun _ _ _ h => h) (Or.inl ⟨by rfl, fun w => by go_simp⟩) ?_
          simp only [Act.put, List.setIfInBounds_toArray, List.set_cons_zero, List.set_cons_succ]
          refine wpAny_take (i := 11) (oi := ({ dst := some 47, op := Go.Op.fieldAddr 105 (Go.Operand.tmp 46) 0, type := 0, pos := "sha2.go:86", after := #[{ on := 10, ground := Go.Ground.data }, { on := 0, ground := Go.Ground.phase }, { on := 1, ground := Go.Ground.phase }, { on := 2, ground := Go.Ground.phase }, { on := 3, ground := Go.Ground.phase }, { on := 4, ground := Go.Ground.phase }, { on := 5, ground := Go.Ground.phase }, { on := 6, ground := Go.Ground.phase }, { on := 7, ground := Go.Ground.phase }, { on := 8, ground := Go.Ground.phase }, { on := 9, ground := Go.Ground.phase }], guard := none } : Oper)) (v := .pointer (some ⟨g, 0, none⟩)) rfl (by kernel_rfl) (by kernel_rfl) (by kernel_rfl) (fun _ _ _ h => h) (Or.inl ⟨by rfl, fun w => by go_simp⟩) ?_
          simp only [Act.put, List.setIfInBounds_toArray, List.set_cons_zero, List.set_cons_succ]
          refine wpAny_ready (rs := [12]) (by kernel_rfl) (by simp) ?_
          refine AllReady.cons (o := ({ dst := none, op := Go.Op.store 95 (Go.Operand.tmp 47) (Go.Operand.tmp 45), type := 0, pos := "sha2.go:86", after := #[{ on := 11, ground := Go.Ground.data }, { on := 9, ground := Go.Ground.data }, { on := 9, ground := Go.Ground.chain }, { on := 0, ground := Go.Ground.phase }, { on := 1, ground := Go.Ground.phase }, { on := 2, ground := Go.Ground.phase }, { on := 3, ground := Go.Ground.phase }, { on := 4, ground := Go.Ground.phase }, { on := 5, ground := Go.Ground.phase }, { on := 6, ground := Go.Ground.phase }, { on := 7, ground := Go.Ground.phase }, { on := 8, ground := Go.Ground.phase }, { on := 9, ground := Go.Ground.phase }], guard := none } : Oper)) rfl (fun K hK => ?_) AllReady.nil
          rw [if_pos (by rfl)]
          refine wp_store_mid 95 (.tmp 47) (.tmp 45) rfl g 0 RA rfl rfl HTH.out HRS.out.1 HRS.out.2 ?_
          simp only [Act.put, List.setIfInBounds_toArray, List.set_cons_zero, List.set_cons_succ]
          refine hK _ _ ?_
          clear hK K
          refine wpAny_done (by kernel_rfl) ?_ _
          go_wp2
          exact ⟨⟨j + k, A2, c' - k, HJ.out.1, by rw [HJ.out.2.1], by rw [HJ.out.2.1]; exact HJ.out.2.2.1, HA3.out, Lib.hid HFI.out⟩, HJ.out.2.2.2⟩
        · rw [if_pos (by rfl)]
          refine wp_load_mid 103 (.tmp 43) rfl g 8 rfl (nums .u8 pb) _ HR2.out.1 HR2.out.2.1 rfl HR2.out.2.2 ?_
          simp only [Act.put, List.setIfInBounds_toArray, List.set_cons_zero, List.set_cons_succ]
          refine hK _ _ ?_
          clear hK K
          refine wpAny_ready (rs := [4]) (by kernel_rfl) (by simp) ?_
          refine AllReady.cons (o := ({ dst := some 40, op := Go.Op.load 95 (Go.Operand.tmp 39), type := 95, pos := "sha2.go:86", after := #[{ on := 3, ground := Go.Ground.data }], guard := none } : Oper)) rfl (fun K hK => ?_) AllReady.nil
          rw [if_pos (by rfl)]
          refine wp_load_mid 95 (.tmp 39) rfl g 0 rfl (words st) _ HR1.out.1 HR1.out.2.1 rfl HR1.out.2.2 ?_
          simp only [Act.put, List.setIfInBounds_toArray, List.set_cons_zero, List.set_cons_succ]
          refine hK _ _ ?_
          clear hK K
          refine wpAny_ready (rs := [9]) (by kernel_rfl) (by simp) ?_
          refine AllReady.cons (o := ({ dst := some 45, op := Go.Op.call { callee := Go.Callee.value (Go.Operand.func 62), args := #[Go.Operand.tmp 40, Go.Operand.tmp 44], argTypes := #[95, 103] }, type := 95, pos := "sha2.go:86", after := #[{ on := 4, ground := Go.Ground.data }, { on := 8, ground := Go.Ground.data }], guard := none } : Oper)) rfl (fun K hK => ?_) AllReady.nil
          go_simp
          go_at_call 62
          (with_reducible refine HBC.out.mono ?_)
          rintro e w5 ⟨rfl, hb5⟩
          have HFI := Lib.hid (HFIN.out w5 hb5)
          have HTH := Lib.hid (HST5.out w5 hb5)
          clear hb5
          go_wp2_with fail
          refine wpAny_take (i := 10) (oi := ({ dst := some 46, op := Go.Op.nilCheck (Go.Operand.tmp 36), type := 0, pos := "sha2.go:86", after := #[{ on := 0, ground := Go.Ground.data }, { on := 0, ground := Go.Ground.phase }, { on := 1, ground := Go.Ground.phase }, { on := 2, ground := Go.Ground.phase }, { on := 3, ground := Go.Ground.phase }, { on := 4, ground := Go.Ground.phase }, { on := 5, ground := Go.Ground.phase }, { on := 6, ground := Go.Ground.phase }, { on := 7, ground := Go.Ground.phase }, { on := 8, ground := Go.Ground.phase }, { on := 9, ground := Go.Ground.phase }], guard := none } : Oper)) (v := .pointer (some ⟨g, 0, none⟩)) rfl (by kernel_rfl) (by kernel_rfl) (by kernel_rfl) (fun _ _ _ h => h) (Or.inl ⟨by rfl, fun w => by go_simp⟩) ?_
          simp only [Act.put, List.setIfInBounds_toArray, List.set_cons_zero, List.set_cons_succ]
          refine wpAny_take (i := 11) (oi := ({ dst := some 47, op := Go.Op.fieldAddr 105 (Go.Operand.tmp 46) 0, type := 0, pos := "sha2.go:86", after := #[{ on := 10, ground := Go.Ground.data }, { on := 0, ground := Go.Ground.phase }, { on := 1, ground := Go.Ground.phase }, { on := 2, ground := Go.Ground.phase }, { on := 3, ground := Go.Ground.phase }, { on := 4, ground := Go.Ground.phase }, { on := 5, ground := Go.Ground.phase }, { on := 6, ground := Go.Ground.phase }, { on := 7, ground := Go.Ground.phase }, { on := 8, ground := Go.Ground.phase }, { on := 9, ground := Go.Ground.phase }], guard := none } : Oper)) (v := .pointer (some ⟨g, 0, none⟩)) rfl (by kernel_rfl) (by kernel_rfl) (by kernel_rfl) (fun _ _ _ h => h) (Or.inl ⟨by rfl, fun w => by go_simp⟩) ?_
          simp only [Act.put, List.setIfInBounds_toArray, List.set_cons_zero, List.set_cons_succ]
          refine wpAny_ready (rs := [12]) (by kernel_rfl) (by simp) ?_
          refine AllReady.cons (o := ({ dst := none, op := Go.Op.store 95 (Go.Operand.tmp 47) (Go.Operand.tmp 45), type := 0, pos := "sha2.go:86", after := #[{ on := 11, ground := Go.Ground.data }, { on := 9, ground := Go.Ground.data }, { on := 9, ground := Go.Ground.chain }, { on := 0, ground := Go.Ground.phase }, { on := 1, ground := Go.Ground.phase }, { on := 2, ground := Go.Ground.phase }, { on := 3, ground := Go.Ground.phase }, { on := 4, ground := Go.Ground.phase }, { on := 5, ground := Go.Ground.phase }, { on := 6, ground := Go.Ground.phase }, { on := 7, ground := Go.Ground.phase }, { on := 8, ground := Go.Ground.phase }, { on := 9, ground := Go.Ground.phase }], guard := none } : Oper)) rfl (fun K hK => ?_) AllReady.nil
          rw [if_pos (by rfl)]
          refine wp_store_mid 95 (.tmp 47) (.tmp 45) rfl g 0 RA rfl rfl HTH.out HRS.out.1 HRS.out.2 ?_
          simp only [Act.put, List.setIfInBounds_toArray, List.set_cons_zero, List.set_cons_succ]
          refine hK _ _ ?_
          clear hK K
          refine wpAny_done (by kernel_rfl) ?_ _
          go_wp2
          exact ⟨⟨j + k, A2, c' - k, HJ.out.1, by rw [HJ.out.2.1], by rw [HJ.out.2.1]; exact HJ.out.2.2.1, HA3.out, Lib.hid HFI.out⟩, HJ.out.2.2.2⟩
      · have hne : ((at_ : Int) + (k : Int) == 64) = false := by rw [beq_eq_false_iff_ne]; omega
        clear hbl hkb hblk hcell hL hll hat hm hk hkm hk64 hk0 hzs hzl hzb hLz hsrc hst hwd hnL hspl hCA hCAs hNA hb2 hset hset2 hother hbw hsz hA2 hA3 H hA' hBg
        go_wp2_with ((with_reducible refine gate_builtin (b := .copy) (xs := #[.tmp 18, .tmp 19]) rfl ?_); (go_loud (refine wpList_copy_own rfl (.tmp 18) (.tmp 19) 28 28 rfl 5 HU.out HS1.out g (8 + at_) (64 - at_) (64 - at_) (ad.add j) m c' rfl rfl CA 105 HCELL.out (nums .u8 zs) HCN.out HSRC.out HFIT.out (nums_one _ _) ?_)); rw [HSPL.out, HZL.out])
        have hz := HLZ.out
        have hp := blk_part HBLK.out hz.2.2.1 (by rw [hz.2.2.2.2.1, hz.2.1]; have := HAK.out; omega)
        rw [hz.2.2.2.2.1, hz.1, hz.2.2.2.2.2.2.1] at hp
        have hlen : ((bs ++ ys.take (j + k)).length : Int) = nL + (k : Int) := by rw [← hz.1, List.length_append, hz.2.1, ← hz.2.2.2.2.2.1]; simp
        refine ⟨⟨j + k, A2, c' - k, HJ.out.1, by rw [HJ.out.2.1], by rw [HJ.out.2.1]; exact HJ.out.2.2.1, HA3.out, Lib.hid ⟨⟨HBG.out, _, hp.1, ?_⟩, HOTH.out.2.1, ?_⟩⟩, HJ.out.2.2.2⟩
        · rw [hp.2, hlen]
          exact HSET.out
        · refine ⟨by rw [HOTH.out.2.2]; exact HKB2.out.1, fun i hi hg hr => ?_⟩
          rw [HOTH.out.1 i hg]
          exact HKB2.out.2 i hi hg hr
    · obtain rfl : j = n := by omega
      rw [Nat.sub_self]
      go_wp2_with fail
      have hf := H.out
      rw [← HN.out, List.take_length] at hf
      go_end0
      exact ⟨rfl, hf.1, hf.2.1, hf.2.2⟩
end Go.Proofs.YtefnpecncacepaaDoor.Hand
