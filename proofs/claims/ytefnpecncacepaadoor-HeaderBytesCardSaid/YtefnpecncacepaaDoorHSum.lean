/- The hasher's sum. -/
import Derived.Test.YtefnpecncacepaaDoorProg
import Derived.Below
import Derived.Deep.Draws
import Derived.Deep.AppendLies
import Derived.Maps.AppendAt
import Derived.OwnWalk
import Derived.Laws.BytesArg
import Derived.Laws.MakeOwn
import Derived.Laws.OwnMore
import Derived.Deep.OwnRows
import Derived.Tactics
import Derived.Lib.ConvBytes
import Derived.Laws.Slices
import Derived.WalkKit
import Derived.KernelRfl
import Derived.RowKit3
import Derived.Deep.LoopGhost
import Derived.Deep.QuietTactic
import Derived.BigQuiet
import Derived.WideLaws
import Derived.Deep.DeepCutAuto
import Derived.Deep.CutBlock
import Derived.Deep.RegionHeld3
import Derived.Laws.Rows
import Derived.Lib.AppendStr
import Derived.ArgAppend
import Derived.Laws.IdiomCopy
import Derived.OrdersHeld
import Derived.Laws.BitsLemmas
import Derived.RowKit
import Derived.StillTailTactics
import Derived.Test.YtefnpecncacepaaDoorWWords
import Derived.Test.YtefnpecncacepaaDoorWLast
import Derived.Test.YtefnpecncacepaaDoorWMore
import Derived.Lib.Hide
import Derived.Test.YtefnpecncacepaaDoorClone
import Derived.Test.YtefnpecncacepaaDoorOctet
import Derived.Outline
import Derived.StillTailTactics
import Derived.Deep.MidRow
import Derived.Deep.WholeRow
import Derived.Deep.RegionLaw
import Derived.Laws.Tables
import Derived.Deep.DrawnRows
import Derived.Test.YtefnpecncacepaaDoorWrite
namespace Go.Proofs.YtefnpecncacepaaDoor.Hand
open Go Go.RowKit Go.Proofs.YtefnpecncacepaaDoor.Plain Go.Proofs.YtefnpecncacepaaDoor.PAll Go.Proofs.YtefnpecncacepaaDoorW.PrintWords Go.Proofs.YtefnpecncacepaaDoorW.PrintLast Go.Proofs.YtefnpecncacepaaDoorW.PrintMore
set_option linter.unusedVariables false
set_option linter.unusedSimpArgs false
set_option maxRecDepth 100000
theorem rd_nat (xs : List Int) (i : Nat) : rd xs (i : Int) = xs.getD i 0 := by simp [rd]
theorem reverse_loop (d : Nat) : ∀ (k : Nat) (a m b : List Int), m.length = d → d < k → a.length + d + b.length < 1000000 →
    slices_Reverse_byte_byte.l0 k (a ++ m ++ b) (a.length : Int) ((a.length : Int) + d - 1) = some (a ++ m.reverse ++ b) := by
  induction d using Nat.strongRecOn with
  | _ d ih =>
    intro k a m b hm hk hb
    obtain ⟨k, rfl⟩ : ∃ j, k = j + 1 := ⟨k - 1, by omega⟩
    simp only [slices_Reverse_byte_byte.l0]
    by_cases h : d ≤ 1
    · rw [if_neg (by omega)]
      match m, hm with
      | [], _ => rfl
      | [x], _ => rfl
      | x :: y :: m, hm => simp at hm; omega
    · obtain ⟨x, m1, rfl⟩ : ∃ x m1, m = x :: m1 := by
        cases m with
        | nil => simp at hm; omega
        | cons x m1 => exact ⟨x, m1, rfl⟩
      obtain ⟨m2, y, rfl⟩ : ∃ m2 y, m1 = m2 ++ [y] := by
        have : m1 ≠ [] := by intro e; subst e; simp at hm; omega
        exact ⟨m1.dropLast, m1.getLast this, (List.dropLast_concat_getLast this).symm⟩
      have hl : m2.length + 2 = d := by simp at hm; omega
      have hlen : (a ++ (x :: (m2 ++ [y])) ++ b).length = a.length + d + b.length := by simp; omega
      have ej : ((a.length : Int) + d - 1) = ((a.length + (m2.length + 1) : Nat) : Int) := by omega
      rw [ej]
      rw [if_pos (by omega), if_pos (by omega), if_pos (by omega), if_pos (by omega), if_pos (by omega)]
      rw [rd_nat, rd_nat]
      have r1 : (a ++ (x :: (m2 ++ [y])) ++ b).getD (a.length + (m2.length + 1)) 0 = y := by
        simp [List.getD_eq_getElem?_getD, List.append_assoc]
      have r2 : (a ++ (x :: (m2 ++ [y])) ++ b).getD a.length 0 = x := by
        simp [List.getD_eq_getElem?_getD, List.append_assoc]
      rw [r1, r2]
      have s1 : ((a ++ (x :: (m2 ++ [y])) ++ b).set ((a.length : Int)).toNat y).set (((a.length + (m2.length + 1) : Nat) : Int)).toNat x = (a ++ [y]) ++ m2 ++ (x :: b) := by
        rw [Int.toNat_natCast, Int.toNat_natCast]
        simp [List.append_assoc, List.set_append, Nat.add_sub_cancel_left]
      rw [s1]
      have e1 : wrap64 ((a.length : Int) + 1) = ((a ++ [y]).length : Int) := by rw [wrap64_id (by omega) (by omega)]; simp
      have e2 : wrap64 (((a.length + (m2.length + 1) : Nat) : Int) - 1) = ((a ++ [y]).length : Int) + (m2.length : Nat) - 1 := by
        rw [wrap64_id (by omega) (by omega)]; simp; omega
      rw [e1, e2, ih m2.length (by omega) k (a ++ [y]) m2 (x :: b) rfl (by omega) (by simp; omega)]
      simp [List.append_assoc]
theorem reverse_tells (xs : List Int) (k : Nat) (hk : xs.length < k) (hl : xs.length < 1000000) : slices_Reverse_byte_byte.f k xs = some xs.reverse := by
  unfold slices_Reverse_byte_byte.f
  have := reverse_loop xs.length k [] xs [] rfl hk (by simpa using hl)
  rw [wrap64_id (by omega) (by omega)]
  simpa using this
theorem great_tells (n : Nat) (w : Int) (k : Nat) (hk : 10 ≤ k) : octet_Great.f k (n : Int) w = some (digs (wid w) n).reverse := by
  have hw := wid_le w
  unfold octet_Great.f
  rw [little_tells n w k hk]
  simp only [Option.bind_some]
  rw [reverse_tells _ k (by rw [digs_length]; omega) (by rw [digs_length]; omega)]
  rfl
theorem great_calls (n : Nat) (d : Int) (k : Nat) (w : World) (hd : wid d = k) :
    Calls Tryd.prog 63 #[.int .u64 (n : Int), .int .i64 d] w fun e w' => ∃ v, e = .returned v ∧ Kd.R (Kd.int .u8) 5 w' w.heap.size (fun _ => True) v (great k n) ∧ Below w.heap.size w w' := by
  subst hd
  exact octet_Great.calls 20 n d _ w (great_tells n d 20 (by omega))
theorem wid8 : wid 8 = 8 := by decide
theorem wid4 : wid 4 = 4 := by decide
/-- A row of the call's own as a source. -/
theorem SrcRow.ofR {w : World} {g base : Nat} {ok : Nat → Prop} {A : Option Addr} {n c : Nat} {ys : List Int} (h : Kd.R (Kd.int .u8) 5 w base ok (.slice A n c) ys) (hg : g < base) : SrcRow w g A ys := by
  obtain ⟨hn, hc, hC⟩ := Kd.R_reads' h
  refine SrcRow.of hC fun ad hA => ?_
  have := Kd.R_base h ad.block (by rw [hA]; rfl)
  omega
theorem infoHash : (Tryd.prog.info? 24).map (fun i => (i.zero, i.size)) = some (some (.agg (nums .u8 (List.replicate 32 0)).toArray), 32) := by kernel_rfl
theorem arr32 : Tryd.prog.underlying 24 = some (.array (Tryd.prog.arrayLen 24) (Tryd.prog.elem 24)) ∧ Tryd.prog.arrayLen 24 = 32 := ⟨by kernel_rfl, by kernel_rfl⟩
theorem slice_o (W : World) (g o : Nat) (ho : o < 32) : (Instr.sliceAt 24 (.pointer (some ⟨g, 0, none⟩)) (some (.int .i64 (o : Int))) none none).run Tryd.prog W = .ok (.slice (some ⟨g, o, none⟩) (32 - o) (32 - o)) W := by
  rw [run_sliceAt_array_l W 24 ⟨g, 0, none⟩ arr32.1 .i64 o (by omega) (by rw [arr32.2]; omega)]
  have z : (sizeOf (Tryd.prog.elem 24)).run Tryd.prog W = .ok 1 W := by rfl
  rw [z, arr32.2]
  simp only [slicedAt, Result.andThen, Int.toNat_natCast, Nat.mul_one, Addr.add_mid, Nat.zero_add]
  rw [if_neg (by omega)]
theorem index8 (s : St) (j : Nat) (hj : j < 8) (w : World) : (Instr.index 95 (.agg (s8 s)) (.int .i64 (j : Int))).run Tryd.prog w = .ok (.int .u32 (s.at8 j)) w := by
  have z3 : (sizeOf 22).run Tryd.prog w = .ok 1 w := by rfl
  have a3 : (isAgg 22).run Tryd.prog w = .ok false w := by simp [isAgg, run_underlying Tryd.underlying22]
  have ha : (arrF s.at8)[j]? = some (.int .u32 (s.at8 j)) := arrF_get _ hj
  rw [s8_arr]
  unfold Instr.index
  simp [run_underlying Tryd.underlying95, hj, asIntOf, part, ha, z3, a3]
def greats (s : St) : Nat → List Int
  | 0 => []
  | n + 1 => greats s n ++ great 4 (s.at8 n).toNat
theorem greats_len (s : St) : ∀ n, (greats s n).length = 4 * n
  | 0 => rfl
  | n + 1 => by
    unfold greats
    rw [List.length_append, greats_len s n, great_len]
    omega
theorem greats_8 (s : St) : greats s 8 = outB s := by
  simp [greats, outB, St.at8]
def outRow (s : St) (n : Nat) : List Int := greats s n ++ List.replicate (32 - 4 * n) 0
theorem outRow_len (s : St) (n : Nat) (h : n ≤ 8) : (outRow s n).length = 32 := by
  simp [outRow, greats_len]
  omega
theorem outRow_splice (s : St) (n : Nat) (h : n < 8) : splice (nums .u8 (outRow s n)) (4 * n) (nums .u8 (great 4 (s.at8 n).toNat)) = nums .u8 (outRow s (n + 1)) := by
  have h1 : (greats s n).length = 4 * n := greats_len s n
  have h2 : (great 4 (s.at8 n).toNat).length = 4 := great_len _ _
  unfold splice outRow nums
  rw [List.length_map, h2, ← List.map_take, ← List.map_drop, List.take_append_of_le_length (by omega), List.take_of_length_le (by omega), List.drop_append, List.drop_of_length_le (l := greats s n) (by omega), h1]
  simp only [greats, List.map_append, List.append_assoc, List.map_replicate, List.drop_replicate, List.nil_append, List.map_nil]
  congr 3
  omega
attribute [local go_sem ↓] Go.wp_at_zero Go.wp_at_succ
set_option maxHeartbeats 1000000 in
set_option maxRecDepth 100000 in
theorem hsum_calls {w : World} {B g : Nat} {bs : List Int} (h : IsH w B g bs) (hl : bs.length ≤ 900000) (hb : ∀ x ∈ bs, 0 ≤ x ∧ x < 256) (hK : KT w) :
    Calls Tryd.prog 53 #[.pointer (some ⟨g, 0, none⟩)] w fun e w' => e = .returned (.agg (nums .u8 (sumP bs)).toArray) ∧ Below w.heap.size w w' := by
  have hgl := h.lt
  obtain ⟨_, blk, hblk, hcell⟩ := h
  have c72 := (blk_cell hcell 72).trans (hc_n hblk.1)
  obtain ⟨nb, hnb⟩ : ∃ nb, bs.length = nb := ⟨_, rfl⟩
  rw [hnb] at c72 hl
  obtain ⟨CA, hCA⟩ : ∃ C, (hCells (stOf bs) blk (bs.length : Int)).toArray = C := ⟨_, rfl⟩
  have hcs : CA.size = 73 := by rw [← hCA]; simp [hc_len hblk.1]
  have hco : CA.all (·.oneCell') = true := by
    rw [← hCA]
    refine all_oneCell_toArray fun v hv => ?_
    simp only [hCells, List.mem_append, List.mem_singleton] at hv
    rcases hv with hv | hv | rfl
    · exact words_one _ v hv
    · exact nums_one _ _ v hv
    · rfl
  rw [hCA] at hcell
  have hz53 := (zero_of_info info_h).1
  obtain ⟨Zh, hZh⟩ : ∃ C, (hCells ⟨0, 0, 0, 0, 0, 0, 0, 0⟩ z64 0).toArray = C := ⟨_, rfl⟩
  rw [hZh] at hz53
  have HS := Lib.hid (show (Tryd.prog.info? 105).map (·.size) = some CA.size ∧ Zh.size = CA.size ∧ CA.all (·.oneCell') = true from ⟨by rw [hcs]; exact (zero_of_info info_h).2, by rw [hcs, ← hZh]; simp [hc_len, z64], hco⟩)
  have hz31 := (zero_of_info infoHash).1
  obtain ⟨Z0, hZ0⟩ : ∃ C, (nums .u8 (List.replicate 32 0)).toArray = C := ⟨_, rfl⟩
  rw [hZ0] at hz31
  have HZ0 := Lib.hid hZ0
  have HCELL := Lib.hid hcell
  have HBLK := Lib.hid hblk
  have HCA := Lib.hid hCA
  have HNB := Lib.hid hnb
  have HL := Lib.hid hl
  have HBY := Lib.hid hb
  have HK := Lib.hid hK
  have HG := Lib.hid hgl
  have HCW := Lib.hid (blk_alloc hcell (.cells Z0 24))
  have HU53 := Lib.hid Tryd.underlying105
  obtain ⟨pz, hpz⟩ : ∃ pz, padZ nb = pz := ⟨_, rfl⟩
  have e1 : (119 - (nb : Int) % 64) % 64 = (pz : Int) := by rw [← hpz]; unfold padZ; omega
  have e2 : pz < 64 := by rw [← hpz]; unfold padZ; omega
  have HPZ := Lib.hid hpz
  have hnl : (nb : Int) ≤ 900000 := by omega
  have c72' : ((w.alloc (.cells Z0 24)).alloc (.cells CA 105)).cell? ⟨g, 72, none⟩ = some (.int .i64 (nb : Int)) := by
    have h1 := (below_alloc (below_alloc (Below.refl w.heap.size w) (.cells Z0 24)) (.cells CA 105)).cell (p := ⟨g, 72, none⟩) hgl
    rw [h1]
    exact c72
  obtain ⟨np, hnp⟩ : ∃ np, pz + 1 = np := ⟨_, rfl⟩
  have e3 : 1 + (pz : Int) = (np : Int) := by omega
  have HNP := Lib.hid (show pz + 1 = np ∧ np ≤ 64 by omega)
  have e4 : (nb : Int).tmod 64 = (nb : Int) % 64 := Int.tmod_eq_emod_of_nonneg (by omega)
  have HC72 := Lib.hid c72
  clear hcell hblk hCA hnb hl hb hK hgl hcs hco hZh hZ0 hpz c72 hnp
  have H2 := Lib.hid (show ((w.alloc (.cells Z0 24)).alloc (.cells CA 105)).heap[w.heap.size + 1]? = some (.cells CA 105 (0, 0)) by
    have := heap_alloc_new (w.alloc (.cells Z0 24)) (.cells CA 105)
    rw [World.size_alloc] at this
    exact this)
  have H1 := Lib.hid (blk_alloc (heap_alloc_new w (.cells Z0 24)) (.cells CA 105))
  have HB2 := Lib.hid (below_alloc (below_alloc (Below.refl w.heap.size w) (.cells Z0 24)) (.cells CA 105))
  have HSZ := Lib.hid (show ((w.alloc (.cells Z0 24)).alloc (.cells CA 105)).heap.size = w.heap.size + 2 by rw [World.size_alloc, World.size_alloc])
  have HMK := Lib.hid (And.intro (show (0 : Int) ≤ (np : Int) by omega) (And.intro (show (np : Int).toNat * 1 ≤ 281474976710656 by have := HNP.out; omega) (Below.refl ((w.alloc (.cells Z0 24)).alloc (.cells CA 105)).heap.size ((w.alloc (.cells Z0 24)).alloc (.cells CA 105)))))
  have HU27 := Lib.hid Tryd.underlying28
  go_enter Tryd.func53, Tryd.ntmps53
  go_wp2_with (first | ((with_reducible show wpList _ _ _ (Oper.mk _ (Op.load 105 _) _ _ _ _ :: _) _ _); (go_loud (refine wpList_load_row rfl 105 (.tmp 9) rfl g rfl 105 CA (0, 0) _ HCW.out HU53.out rfl HS.out.1 ?_))) | ((with_reducible show wpList _ _ _ (Oper.mk _ (Op.store 105 _ _) _ _ _ _ :: _) _ _); (go_loud (refine wpl_store_new rfl 105 (.tmp 3) (.tmp 10) rfl Zh CA (by rw [World.size_alloc]; rfl) rfl HS.out.1 HS.out.2.1 HS.out.2.2 ?_))) | (at_make; (go_loud (refine Kd.R_make (Kd.int .u8) (w0 := (w.alloc (.cells Z0 24)).alloc (.cells CA 105)) ((w.alloc (.cells Z0 24)).alloc (.cells CA 105)).heap.size 5 rfl rfl 28 (.tmp 18) (.tmp 18) rfl (np : Int) rfl rfl HU27.out (.int .u8 0) 1 info5 rfl (by decide) (by decide) (0 : Int) (ok := fun _ => True) (okp := fun _ => False) rfl (fun _ h => h.elim) trivial HMK.out.1 HMK.out.2.1 HMK.out.2.2 (Nat.le_refl _) ?_)); intro v1 w3 hR hb hg hat; obtain ⟨bE, cE, hv, hbE, hbE2, -⟩ := Kd.R_form hR (by rw [List.length_replicate]; have := HNP.out; omega); subst hv; rw [List.length_replicate, Int.toNat_natCast] at hR ⊢; obtain ⟨zc, zf⟩ : w3.cell? ⟨bE, 0, none⟩ = some (.int .u8 0) ∧ w3.frozen? ⟨bE, 0, none⟩ = false := (by have h := Kd.R_celln (0 : Int) hR 0 (by decide) (by have := HNP.out; omega); have h2 : rdOf (0 : Int) (List.replicate np 0) 0 = 0 := (by have := HNP.out; unfold rdOf; rw [List.getD_eq_getElem?_getD, List.getElem?_replicate]; split <;> rfl); rw [h2] at h; exact h); have HR := Lib.hid hR; have HB3 := Lib.hid hb; have HBE := Lib.hid (And.intro hbE hbE2); clear hR hb hg hat hbE hbE2))
  obtain ⟨W2, hW2⟩ : ∃ W, ((w.alloc (.cells Z0 24)).alloc (.cells CA 105)) = W := ⟨_, rfl⟩
  rw [hW2] at H1 H2 HB2 HSZ HB3 HBE HR
  obtain ⟨b0, hb0⟩ : ∃ b, w.heap.size = b := ⟨_, rfl⟩
  rw [hb0] at H1 H2 HB2 HSZ ⊢
  clear zc zf c72'
  obtain ⟨b3, hb3⟩ : ∃ b, b0 + 1 = b := ⟨_, rfl⟩
  rw [hb3] at H2 ⊢
  have HBB := Lib.hid (show w.heap.size = b0 ∧ b3 = b0 + 1 ∧ W2.heap.size = b0 + 2 by have := HSZ.out; omega)
  rw [hW2] at HMK
  clear hW2 hb0 hb3 HSZ
  obtain ⟨eL, heL⟩ : ∃ eL, (128 : Int) :: List.replicate pz 0 = eL := ⟨_, rfl⟩
  have heLl : eL.length = np := by rw [← heL]; have := HNP.out; simp; omega
  have heLb : ∀ x ∈ eL, 0 ≤ x ∧ x < 256 := by
    intro x hx
    rw [← heL] at hx
    simp only [List.mem_cons, List.mem_replicate] at hx
    rcases hx with rfl | ⟨_, rfl⟩ <;> decide
  have hbe := HBE.out
  have hbb := HBB.out
  obtain ⟨W3, hW3⟩ : ∃ W, w3.setCell ⟨bE, 0, none⟩ (.int .u8 128) = W := ⟨_, rfl⟩
  have hB3 : Below b0 w W3 := by
    rw [← hW3]
    exact (HB2.out.trans (Below.mono HB3.out (by omega))).setCell (p := ⟨bE, 0, none⟩) (show b0 ≤ bE by omega) _
  have hR3 : Kd.R (Kd.int .u8) 5 W3 W2.heap.size (fun _ => True) (.slice (some ⟨bE, 0, none⟩) np cE) eL := by
    have h := Kd.R_putn HR.out 0 (128 : Int)
    have h2 : (List.replicate np (0 : Int)).set (0 : Int).toNat 128 = eL := by
      rw [← heL, ← HNP.out.1, List.replicate_succ]
      rfl
    rw [h2] at h
    rw [← hW3]
    exact h
  have hsz3 : W3.heap.size = w3.heap.size := by rw [← hW3, World.size_setCell]
  have hblk3 : ∀ i, i < W2.heap.size → W3.heap[i]? = W2.heap[i]? := fun i hi => by
    rw [← hW3, Below.heap_setCell w3 ⟨bE, 0, none⟩ _ i (show i ≠ bE by omega)]
    exact HB3.out.block i hi
  have hIs : IsH W3 b0 b3 bs := ⟨by omega, blk, HBLK.out, by rw [hblk3 b3 (by omega), H2.out, ← HCA.out]⟩
  have hKT3 : KT W3 := HK.out.below hB3 (by omega)
  have hg0 : 0 < b0 := by rw [← hbb.1]; exact HK.out.lt
  have hB3s : b0 ≤ W3.heap.size := by omega
  have H13 := Lib.hid ((hblk3 b0 (by omega)).trans H1.out)
  rw [hW3]
  refine (write_calls hIs (some ⟨bE, 0, none⟩) cE np eL heLl (SrcRow.ofR hR3 (by omega)) (Kd.R_reads' hR3).2.1 heLb (by have := HNB.out; have := HL.out; have := HNP.out; omega) hB3s hKT3 hg0).mono ?_
  rintro e w4 ⟨rfl, hI4, hb4, hk4⟩
  have hB4 : Below b0 w w4 := hB3.trans hb4
  have c72 : w4.cell? ⟨g, 72, none⟩ = some (.int .i64 (nb : Int)) := by
    rw [hB4.cell (p := ⟨g, 72, none⟩) (show g < b0 by rw [← hbb.1]; exact HG.out)]
    exact HC72.out
  have H14 := Lib.hid ((hk4.2 b0 (by omega) (by omega) (by simp)).trans H13.out)
  have HI4 := Lib.hid hI4
  have HB4 := Lib.hid hB4
  have HK4 := Lib.hid (show KT w4 from HK.out.below hB4 (by omega))
  have HEL := Lib.hid (And.intro heL (And.intro heLl heLb))
  have HG0 := Lib.hid (And.intro hg0 (show b0 + 2 ≤ w4.heap.size by have := hk4.1; omega))
  clear heL heLl heLb hbe hbb hW3 hB3 hR3 hsz3 hblk3 hIs hKT3 hg0 hB3s hI4 hb4 hk4 hB4
  go_wp2_with fail
  have hgc := great_calls (8 * nb) 8 8 w4 wid8
  rw [show ((8 * nb : Nat) : Int) = (nb : Int) * 8 by omega] at hgc
  refine hgc.mono ?_
  clear hgc
  rintro e w5 ⟨v, rfl, hv, hb5⟩
  obtain ⟨bG, cG, hvv, hbG, hbG2, -⟩ := Kd.R_form hv (by rw [great_len]; decide)
  rw [great_len] at hvv
  subst hvv
  have hsz := HG0.out.2
  have hbb := HBB.out
  have HI5 := Lib.hid (HI4.out.below hb5)
  have HB5 := Lib.hid (HB4.out.trans (Below.mono hb5 (by omega)))
  have HR5 := Lib.hid hv
  have HK5 := Lib.hid (show KT w5 from HK.out.below HB5.out (by omega))
  have H15 := Lib.hid ((hb5.block b0 (by omega)).trans H14.out)
  have HS5 := Lib.hid (show w4.heap.size ≤ w5.heap.size from hb5.size)
  clear hv hb5 hsz hbb hbG hbG2 c72
  go_wp2_with fail
  have hIs := HI5.out
  have hbb := HBB.out
  have hg0 := HG0.out
  have hs5 := HS5.out
  obtain ⟨gL, hgL⟩ : ∃ gL, great 8 (8 * nb) = gL := ⟨_, rfl⟩
  have hr5 := HR5.out
  rw [hgL] at hr5
  refine (write_calls hIs (some ⟨bG, 0, none⟩) cG 8 gL (by rw [← hgL, great_len]) (SrcRow.ofR hr5 (by omega)) (Kd.R_reads' hr5).2.1 (by rw [← hgL]; exact great_bytes _ _) (by rw [List.length_append, HEL.out.2.1]; have := HNB.out; have := HL.out; have := HNP.out; omega) (by omega) HK5.out hg0.1).mono ?_
  rintro e w6 ⟨rfl, hI6, hb6, hk6⟩
  have hpad : (bs ++ eL) ++ gL = padB bs := by
    unfold padB
    rw [HNB.out, HPZ.out, ← hgL, ← HEL.out.1]
  rw [hpad] at hI6
  have HB6 := Lib.hid (HB5.out.trans hb6)
  have H16 := Lib.hid ((hk6.2 b0 (by omega) (by omega) (by simp)).trans H15.out)
  have HS6 := Lib.hid (show b0 + 2 ≤ w6.heap.size by have := hk6.1; omega)
  obtain ⟨st, hst⟩ : ∃ st, stOf (padB bs) = st := ⟨_, rfl⟩
  have hwd : st.wd := by rw [← hst]; exact stOf_wd _
  obtain ⟨-, pb, hpb, hc6⟩ := hI6
  rw [hst] at hc6
  have hr6 : (w6.alloc (.cells Z0 24)).rangeAt b3 0 (words st) := fun i v hv => by
    rw [blk_cell (blk_alloc hc6 (.cells Z0 24)), Nat.zero_add]
    unfold hCells
    rw [List.getElem?_toArray, List.getElem?_append_left (List.getElem?_eq_some_iff.1 hv).1]
    exact hv
  have HR6 := Lib.hid (And.intro hr6 (And.intro Tryd.underlying95 (show (Tryd.prog.info? 95).map (·.size) = some (words st).length by rw [s8_size st]; rfl)))
  have HSUM := Lib.hid (show sumP bs = outB st by unfold sumP; rw [hst])
  have HWD := Lib.hid hwd
  clear hIs hbb hg0 hs5 hgL hr5 hb6 hk6 hpad hst hwd hpb hc6 hr6
  obtain ⟨SV, hSV⟩ : ∃ V, s8 st = V := ⟨_, rfl⟩
  have HSV := Lib.hid hSV
  clear hSV
  go_wp2_with ((with_reducible show wpList _ _ _ (Oper.mk _ (Op.load 95 _) _ _ _ _ :: _) _ _); (go_loud (refine wpList_load_mid rfl 95 (.tmp 32) rfl b3 0 rfl (words st) _ HR6.out.1 HR6.out.2.1 rfl HR6.out.2.2 ?_)); rw [words_s8, HSV.out])
  have HO7 := Lib.hid (show (w6.alloc (.cells Z0 24)).heap[w6.heap.size]? = some (.cells (nums .u8 (outRow st 0)).toArray 24 (0, 0)) by
    rw [heap_alloc_new, show outRow st 0 = List.replicate 32 0 from rfl, HZ0.out])
  have H17 := Lib.hid (blk_alloc H16.out (.cells Z0 24))
  have HB7 := Lib.hid (HB6.out.alloc (by have := HS6.out; omega) (.cells Z0 24))
  obtain ⟨W7, hW7⟩ : ∃ W, w6.alloc (.cells Z0 24) = W := ⟨_, rfl⟩
  rw [hW7] at HO7 H17 HB7 ⊢
  obtain ⟨bo, hbo⟩ : ∃ b, w6.heap.size = b := ⟨_, rfl⟩
  rw [hbo] at HO7 ⊢
  have HBO := Lib.hid (show b0 < bo by have := HS6.out; omega)
  have HS1 := Lib.hid (show (Tryd.prog.info? 5).map (·.size) = some 1 by kernel_rfl)
  have HIX := Lib.hid (show ∀ (j : Nat), j < 8 → ∀ W : World, (Instr.index 95 (.agg SV) (.int .i64 (j : Int))).run Tryd.prog W = .ok (.int .u32 (st.at8 j)) W from fun j hj W => by rw [← HSV.out]; exact index8 st j hj W)
  have HU31 := Lib.hid Tryd.underlying24
  clear hW7 hbo e1 e2 e3 e4 hnl
  go_loopw [34] (fun i wx => ∃ k : Nat, k ≤ 8 ∧ i = .int .i64 (k : Int) ∧ Hid (wx.heap[bo]? = some (.cells (nums .u8 (outRow st k)).toArray 24 (0, 0)) ∧ wx.heap[b0]? = some (.cells Z0 24 (0, 0)) ∧ Below b0 w wx)) (fun i _ => (8 - intOf i).toNat)
  case atStart => exact ⟨0, by omega, rfl, Lib.hid ⟨HO7.out, H17.out, HB7.out⟩⟩
  case round =>
    obtain ⟨k, hk, rfl, H⟩ := hrel
    obtain ⟨ho, hz, hbl⟩ := H.out
    have HO := Lib.hid ho
    have HZ := Lib.hid hz
    have HBL := Lib.hid hbl
    by_cases hlt : k < 8
    · have hx : Wd (st.at8 k) := by
        have h := HWD.out
        match k, hlt with
        | 0, _ => exact h.1.1
        | 1, _ => exact h.1.2.1
        | 2, _ => exact h.1.2.2.1
        | 3, _ => exact h.1.2.2.2
        | 4, _ => exact h.2.1
        | 5, _ => exact h.2.2.1
        | 6, _ => exact h.2.2.2.1
        | 7, _ => exact h.2.2.2.2
      have ix := HIX.out k hlt
      have hsp := outRow_splice st k hlt
      have hol := outRow_len st k (by omega)
      obtain ⟨x, hxx⟩ : ∃ x, st.at8 k = x := ⟨_, rfl⟩
      rw [hxx] at ix hx hsp
      obtain ⟨o, hoo⟩ : ∃ o, 4 * k = o := ⟨_, rfl⟩
      rw [hoo] at hsp
      have hso := fun W => slice_o W bo o (by omega)
      have m4 : IntKind.i64.wrap (4 * (k : Int)) = (o : Int) := by rw [IntKind.wrap_i64]; omega
      have m5 : 4 * (k : Int) = (o : Int) := by omega
      have m6 : IntKind.i64.wrap (o : Int) = (o : Int) := by rw [IntKind.wrap_i64]; omega
      have xw : IntKind.u64.wrap x = x := by rw [IntKind.wrap_u64]; have := hx.1; have := hx.2; omega
      have x0 : 0 ≤ x := hx.1
      have x1 : x < 4294967296 := hx.2
      obtain ⟨gs, hgs⟩ : ∃ gs, great 4 x.toNat = gs := ⟨_, rfl⟩
      have hgsl : gs.length = 4 := by rw [← hgs, great_len]
      rw [hgs] at hsp
      have HGC := Lib.hid (show ∀ W : World, Calls Tryd.prog 63 #[.int .u64 x, .int .i64 4] W fun e w' => ∃ v, e = .returned v ∧ Kd.R (Kd.int .u8) 5 w' W.heap.size (fun _ => True) v gs ∧ Below W.heap.size W w' from fun W => by
        have h := great_calls x.toNat 4 4 W wid4
        rw [Int.toNat_of_nonneg x0, hgs] at h
        exact h)
      have HSP := Lib.hid hsp
      have HGS := Lib.hid hgsl
      have HOL := Lib.hid hol
      have HOK := Lib.hid (show o + 4 ≤ 32 by omega)
      have HCN := Lib.hid (show (nums .u8 gs).length = Nat.min 4 (32 - o) by simp only [nums, List.length_map]; rw [hgsl]; exact (Nat.min_eq_left (by omega)).symm)
      have HCF := Lib.hid (show o + (nums .u8 gs).length ≤ (nums .u8 (outRow st k)).length by simp only [nums, List.length_map]; omega)
      have H8 := Lib.hid (show ∀ w8 : World, Below wr.drew.heap.size wr.drew w8 → w8.heap[bo]? = some (.cells (nums .u8 (outRow st k)).toArray 24 (0, 0)) ∧ w8.heap[b0]? = some (.cells Z0 24 (0, 0)) ∧ Below b0 w w8 from fun w8 h8 => by
        refine ⟨(h8.block bo (show bo < wr.heap.size from blk_lt HO.out)).trans HO.out, (h8.block b0 (show b0 < wr.heap.size from blk_lt HZ.out)).trans HZ.out, (below_drew HBL.out).trans (Below.mono h8 ?_)⟩
        show b0 ≤ wr.heap.size
        have := blk_lt HZ.out
        omega)
      clear hx hsp hol hxx hoo hgs hgsl ho hz hbl H
      go_wp2_with fail
      go_region_law (first
        | (go_simp; go_at_call 63; (with_reducible refine (HGC.out _).mono ?_); rintro e w8 ⟨v8, rfl, hv8, hb8⟩; obtain ⟨A8, c8, hvv, hc8, hC8⟩ := Kd.R_reads hv8; rw [HGS.out] at hvv hc8; subst hvv; have HC8 := Lib.hid hC8; have HO8 := Lib.hid (H8.out w8 hb8).1; have HZ8 := Lib.hid (H8.out w8 hb8).2.1; have HB8 := Lib.hid (H8.out w8 hb8).2.2; clear hv8 hb8 hc8 hC8)
        | (refine step_copy_splice (by rfl) (.tmp 40) (.tmp 43) 28 28 (by rfl) 5 HU27.out HS1.out (some ⟨bo, o, none⟩) A8 (32 - o) (32 - o) 4 c8 (by rfl) (by rfl) bo o (nums .u8 (outRow st k)) 24 HO8.out (nums .u8 gs) HCN.out (fun hp => ⟨rfl, C_cells HC8.out (by rw [HGS.out]; decide)⟩) HCF.out (nums_one _ _) bo w8 (Below.refl _ _) (Nat.le_refl _) ?_; intro w9 hk9 hb9; have HO9 := Lib.hid hk9.out; have HB9 := Lib.hid hb9; clear hk9 hb9))
      all_goals
        clear ix hso m4 m5 m6 xw x0 x1
        have HZ9 := Lib.hid ((HB9.out.block b0 HBO.out).trans HZ8.out)
        have HO10 := Lib.hid (show w9.heap[bo]? = some (.cells (nums .u8 (outRow st (k + 1))).toArray 24 (0, 0)) by rw [HO9.out, HSP.out])
        have HB10 := Lib.hid (HB8.out.trans (Below.mono HB9.out (Nat.le_of_lt HBO.out)))
        go_wp2
        go_roundw
        case rel => exact ⟨k + 1, by omega, by go_num, Lib.hid ⟨HO10.out, HZ9.out, HB10.out⟩⟩
        case measure => simp only [intOf]; omega
    · obtain rfl : k = 8 := by omega
      obtain ⟨RA, hRA⟩ : ∃ R, (nums .u8 (sumP bs)).toArray = R := ⟨_, rfl⟩
      have hfin : nums .u8 (outRow st 8) = nums .u8 (sumP bs) := by
        rw [HSUM.out, ← greats_8]
        simp [outRow]
      have hsl : (nums .u8 (sumP bs)).length = 32 := by simp [nums, sumP_len]
      have HF := Lib.hid (show wr.heap[bo]? = some (.cells RA 24 (0, 0)) by rw [ho, hfin, hRA])
      have HRS := Lib.hid (show (Tryd.prog.info? 24).map (·.size) = some RA.size ∧ Z0.size = RA.size ∧ RA.all (·.oneCell') = true by
        have h32 : RA.size = 32 := by rw [← hRA]; exact hsl
        refine ⟨by rw [h32]; exact (zero_of_info infoHash).2, by rw [h32, ← HZ0.out]; rfl, by rw [← hRA]; exact all_oneCell_toArray (nums_one _ _)⟩)
      have HRR := Lib.hid hRA
      clear ho hz hbl H hRA hfin hsl hk hlt
      rw [show ((8 : Nat) : Int) = 8 from rfl]
      go_wp2_with (first | ((with_reducible show wpList _ _ _ (Oper.mk _ (Op.load _ _) _ _ _ _ :: _) _ _); (go_loud (refine wpList_load_row rfl 24 (.tmp 5) rfl bo rfl 24 RA (0, 0) _ HF.out HU31.out rfl HRS.out.1 ?_))) | ((with_reducible show wpList _ _ _ (Oper.mk _ (Op.store _ _ _) _ _ _ _ :: _) _ _); (go_loud (refine wpList_store_row rfl 24 (.tmp 2) (.tmp 46) rfl b0 RA rfl rfl 24 Z0 HZ.out HRS.out.1 HRS.out.2.1 HRS.out.2.2 ?_))))
      exact bodyPost_ret (results_cell_row rfl _ _ b0 24 RA (0, 0) _ rfl (setRow_heap _ _ _ _ _ _ HZ.out) HU31.out rfl HRS.out.1) rfl ⟨by rw [HRR.out], by rw [HBB.out.1]; exact below_setRow HBL.out (Nat.le_refl _) _⟩
end Go.Proofs.YtefnpecncacepaaDoor.Hand
