/- A block's words: walked. -/
import Derived.Test.YtefnpecncacepaaDoorProg
import Derived.Below
import Derived.Deep.Draws
import Derived.Deep.AppendLies
import Derived.Maps.AppendAt
import Derived.OwnWalk
import Derived.Laws.BytesArg
import Derived.Laws.MakeOwn
import Derived.Laws.OwnMore
import Derived.Deep.OwnRows
import Derived.Tactics
import Derived.Lib.ConvBytes
import Derived.Laws.Slices
import Derived.WalkKit
import Derived.KernelRfl
import Derived.RowKit3
import Derived.Deep.LoopGhost
import Derived.Deep.QuietTactic
import Derived.BigQuiet
import Derived.WideLaws
import Derived.Deep.DeepCutAuto
import Derived.Deep.CutBlock
import Derived.Deep.RegionHeld3
import Derived.Laws.Rows
import Derived.Lib.AppendStr
import Derived.ArgAppend
import Derived.Laws.IdiomCopy
import Derived.OrdersHeld
import Derived.Laws.BitsLemmas
import Derived.RowKit
import Derived.StillTailTactics
import Derived.Test.YtefnpecncacepaaDoorWWords
import Derived.Test.YtefnpecncacepaaDoorWLast
import Derived.Test.YtefnpecncacepaaDoorWMore
import Derived.Lib.Hide
import Derived.Outline
import Derived.StillTailTactics
import Derived.Deep.MidRow
import Derived.Deep.WholeRow
import Derived.Test.YtefnpecncacepaaDoorArrays
import Derived.Test.YtefnpecncacepaaDoorShaPlain
namespace Go.Proofs.YtefnpecncacepaaDoor.Hand
open Go Go.RowKit Go.Proofs.YtefnpecncacepaaDoor.Plain Go.Proofs.YtefnpecncacepaaDoor.PAll Go.Proofs.YtefnpecncacepaaDoorW.PrintWords Go.Proofs.YtefnpecncacepaaDoorW.PrintLast Go.Proofs.YtefnpecncacepaaDoorW.PrintMore
set_option linter.unusedVariables false
set_option linter.unusedSimpArgs false
set_option maxRecDepth 100000
/-- Words, the rest of them not laid yet. -/
def row64 (l : List Int) : List Value := nums .u32 (l ++ List.replicate (64 - l.length) 0)
theorem row64_len {l : List Int} (h : l.length ≤ 64) : (row64 l).length = 64 := by simp [row64, nums]; omega
theorem row64_get {l : List Int} {j : Nat} (h : j < l.length) : (row64 l).toArray[j]? = some (.int .u32 (rd l (j : Int))) := by
  simp [row64, nums, rd, h, List.getElem?_append_left, List.getElem?_map]
theorem row64_set {l : List Int} (h : l.length < 64) (x : Int) : (row64 l).toArray.setIfInBounds l.length (.int .u32 x) = (row64 (l ++ [x])).toArray := by
  obtain ⟨m, hm⟩ : ∃ m, 64 - l.length = m + 1 := ⟨63 - l.length, by omega⟩
  have h2 : 64 - (l ++ [x]).length = m := by simp; omega
  unfold row64 nums
  rw [hm, h2, List.replicate_succ]
  simp [List.map_append]
theorem row64_rest {l L : List Int} {t : Nat} (h : L.length = t) (e : l = L) (h2 : t < 64) : (row64 l).toArray[t]? = some (.int .u32 0) := by
  subst e
  subst h
  simp only [row64, nums]
  rw [List.getElem?_toArray, List.getElem?_map, List.getElem?_append_right (Nat.le_refl _), Nat.sub_self, List.getElem?_replicate, if_pos (by omega)]
  rfl
theorem row64_full {l : List Int} (h : l.length = 64) : row64 l = nums .u32 l := by simp [row64, h]
theorem infoW : (Tryd.prog.info? 109).map (fun i => (i.zero, i.size)) = some (some (.agg (row64 []).toArray), 64) := by kernel_rfl
theorem row64_one (l : List Int) : ∀ v ∈ row64 l, v.oneCell' = true := nums_one _ _
theorem big_loop (xs : List Int) (hb : ∀ x ∈ xs, 0 ≤ x ∧ x < 256) (h4 : xs.length = 4) : octet_Big.f 10 xs = some (rd xs 0 * 16777216 + rd xs 1 * 65536 + rd xs 2 * 256 + rd xs 3) := by
  match xs, h4 with
  | [a, b, c, d], _ =>
    have ha := hb a (by simp)
    have hb2 := hb b (by simp)
    have hc := hb c (by simp)
    have hd := hb d (by simp)
    have o1 : ∀ (x y : Int), 0 ≤ x → x < 65536 * 256 → 0 ≤ y → y < 256 → Go.bits .or .u64 (IntKind.u64.wrap (x * 256)) (IntKind.u64.wrap y) = x * 256 + y := fun x y h1 h2 h3 h4 => by
      rw [u64w_id (by omega) (by omega), u64w_id (by omega) (by omega)]
      exact or64 8 h3 (by omega) (by omega) (by omega) (by omega) (by omega)
    have r0 : rd [a, b, c, d] 0 = a := rfl
    have r1 : rd [a, b, c, d] 1 = b := rfl
    have r2 : rd [a, b, c, d] 2 = c := rfl
    have r3 : rd [a, b, c, d] 3 = d := rfl
    unfold octet_Big.f
    have e : mn (([a, b, c, d] : List Int).length : Int) 8 = 4 := rfl
    have l4 : (([a, b, c, d] : List Int).length : Int) = 4 := rfl
    have w1 : wrap64 (0 + 1) = 1 := (wrap64_id (by decide) (by decide)).trans rfl
    have w2 : wrap64 (1 + 1) = 2 := (wrap64_id (by decide) (by decide)).trans rfl
    have w3 : wrap64 (2 + 1) = 3 := (wrap64_id (by decide) (by decide)).trans rfl
    have w4 : wrap64 (3 + 1) = 4 := (wrap64_id (by decide) (by decide)).trans rfl
    rw [e]
    unfold octet_Big.l0; rw [l4, if_pos (by decide), if_pos (by decide), if_pos (by decide), w1, r0, o1 0 a (by omega) (by omega) (by omega) (by omega)]
    unfold octet_Big.l0; rw [l4, if_pos (by decide), if_pos (by decide), if_pos (by decide), w2, r1, o1 (0 * 256 + a) b (by omega) (by omega) (by omega) (by omega)]
    unfold octet_Big.l0; rw [l4, if_pos (by decide), if_pos (by decide), if_pos (by decide), w3, r2, o1 ((0 * 256 + a) * 256 + b) c (by omega) (by omega) (by omega) (by omega)]
    unfold octet_Big.l0; rw [l4, if_pos (by decide), if_pos (by decide), if_pos (by decide), w4, r3, o1 (((0 * 256 + a) * 256 + b) * 256 + c) d (by omega) (by omega) (by omega) (by omega)]
    unfold octet_Big.l0; rw [if_neg (by decide)]
    congr 1
    omega
/-- Four bytes of a block of 64, as a word. -/
theorem big4_calls {w : World} {bB : Nat} {bs : List Int} {t : TypeId} {fr : Nat × Nat} (k : Nat) (hk : k < 16) (c : Nat) (hc : 4 ≤ c) (hb : w.heap[bB]? = some (.cells (nums .u8 bs).toArray t fr)) (hl : bs.length = 64) (hby : ∀ x ∈ bs, 0 ≤ x ∧ x < 256) :
    Calls Tryd.prog 69 #[.slice (some ⟨bB, 4 * k, none⟩) 4 c] w fun e w' => e = .returned (.int .u64 (big4 bs k)) ∧ Below w.heap.size w w' := by
  obtain ⟨l, hl4⟩ : ∃ l, (bs.drop (4 * k)).take 4 = l := ⟨_, rfl⟩
  have h4 : l.length = 4 := by rw [← hl4]; simp; omega
  have hbl : ∀ x ∈ l, 0 ≤ x ∧ x < 256 := fun x hx => hby x (List.mem_of_mem_drop (List.mem_of_mem_take (by rw [hl4]; exact hx)))
  have hsp : bs = bs.take (4 * k) ++ (l ++ bs.drop (4 * k + 4)) := by rw [← hl4, ← List.drop_drop, List.take_append_drop, List.take_append_drop]
  have hcs : nums .u8 bs = nums .u8 (bs.take (4 * k)) ++ (nums .u8 l ++ nums .u8 (bs.drop (4 * k + 4))) := by
    have := congrArg (nums .u8) hsp
    simpa [nums] using this
  have hC : Kd.C (Kd.int .u8) w (some ⟨bB, 4 * k, none⟩) l.length l := C_of_block (pre := nums .u8 (bs.take (4 * k))) (post := nums .u8 (bs.drop (4 * k + 4))) (t := t) (fr := fr) (by rw [hb, hcs]) (by simp [nums]; omega) (by omega)
  have hg : ∀ j : Nat, j < 4 → rd l (j : Int) = rd bs ((4 * k + j : Nat) : Int) := fun j hj => by
    simp only [rd, Int.toNat_natCast]
    rw [← hl4, List.getD_eq_getElem?_getD, List.getD_eq_getElem?_getD, List.getElem?_take_of_lt hj, List.getElem?_drop]
  have hv : rd l 0 * 16777216 + rd l 1 * 65536 + rd l 2 * 256 + rd l 3 = big4 bs k := by
    have g0 := hg 0 (by decide)
    have g1 := hg 1 (by decide)
    have g2 := hg 2 (by decide)
    have g3 := hg 3 (by decide)
    have hr : ∀ j : Nat, j < 64 → 0 ≤ rd bs (j : Int) ∧ rd bs (j : Int) < 256 := fun j hj => hby _ (by simp [rd, hl, hj])
    have q0 := hr (4 * k) (by omega)
    have q1 := hr (4 * k + 1) (by omega)
    have q2 := hr (4 * k + 2) (by omega)
    have q3 := hr (4 * k + 3) (by omega)
    unfold big4
    simp only [Int.natCast_zero, Int.natCast_one, show ((2 : Nat) : Int) = 2 from rfl, show ((3 : Nat) : Int) = 3 from rfl, Nat.add_zero] at g0 g1 g2 g3
    rw [g0, g1, g2, g3]
    omega
  have := octet_Big.calls 10 (some ⟨bB, 4 * k, none⟩) c l _ w hC (by omega) (big_loop l hbl h4)
  rw [h4, hv] at this
  exact this
theorem arr64b : Tryd.prog.underlying 103 = some (.array (Tryd.prog.arrayLen 103) (Tryd.prog.elem 103)) ∧ Tryd.prog.arrayLen 103 = 64 := ⟨by kernel_rfl, by kernel_rfl⟩
theorem slice_blk (W : World) (bB l h : Nat) (hlh : l ≤ h) (hh : h ≤ 64) (hl : l < 64) : (Instr.sliceAt 103 (.pointer (some ⟨bB, 0, none⟩)) (some (.int .i64 (l : Int))) (some (.int .i64 (h : Int))) none).run Tryd.prog W = .ok (.slice (some ⟨bB, l, none⟩) (h - l) (64 - l)) W := by
  rw [run_sliceAt_array_lh W 103 ⟨bB, 0, none⟩ arr64b.1 .i64 .i64 l h (by omega) (by omega) (by rw [arr64b.2]; omega)]
  have z : (sizeOf (Tryd.prog.elem 103)).run Tryd.prog W = .ok 1 W := by rfl
  rw [z, arr64b.2]
  simp only [slicedAt, Result.andThen, Int.toNat_natCast, Nat.mul_one, Addr.add_mid, Nat.zero_add]
  rw [if_neg (by omega)]
theorem take16_step (b : List Int) (k : Nat) (hk : k < 16) : (first16 b).take (k + 1) = (first16 b).take k ++ [big4 b k] := by
  unfold first16
  rw [List.take_succ_eq_append_getElem (by simpa using hk)]
  simp
theorem ext_step : ∀ (n : Nat) (ws : List Int), ext (n + 1) ws = ext n ws ++ [wAt (ext n ws) (ext n ws).length]
  | 0, ws => rfl
  | n + 1, ws => by
    have := ext_step n (ws ++ [wAt ws ws.length])
    unfold ext
    rw [this]
theorem big4_wd (b : List Int) (k : Nat) : Wd (big4 b k) := by unfold big4 Wd; omega
theorem wAt_wd (ws : List Int) (i : Nat) : Wd (wAt ws i) := add32_wd _ _
theorem ext_wd : ∀ (n : Nat) (ws : List Int), (∀ x ∈ ws, Wd x) → ∀ x ∈ ext n ws, Wd x
  | 0, ws, h => h
  | n + 1, ws, h => by
    unfold ext
    refine ext_wd n _ fun x hx => ?_
    simp only [List.mem_append, List.mem_singleton] at hx
    rcases hx with hx | rfl
    · exact h x hx
    · exact wAt_wd _ _
theorem first16_wd (b : List Int) : ∀ x ∈ first16 b, Wd x := by
  intro x hx
  simp only [first16, List.mem_map] at hx
  obtain ⟨k, _, rfl⟩ := hx
  exact big4_wd b k
theorem rd_wd {ws : List Int} (h : ∀ x ∈ ws, Wd x) (i : Int) : Wd (rd ws i) := by
  unfold rd
  rw [List.getD_eq_getElem?_getD]
  cases hj : ws[i.toNat]? with
  | none => exact ⟨by decide, by decide⟩
  | some x => exact h x (List.mem_of_getElem? hj)
theorem wAt_of {L : List Int} {t : Nat} {x y p q : Int} (h : L.length = t) (h15 : rd L ((t - 15 : Nat) : Int) = x) (h2 : rd L ((t - 2 : Nat) : Int) = y) (h16 : rd L ((t - 16 : Nat) : Int) = p) (h7 : rd L ((t - 7 : Nat) : Int) = q) : wAt L L.length = add32 (add32 (add32 p (sg0 x)) q) (sg1 y) := by
  unfold wAt
  rw [h, h15, h2, h16, h7]
theorem below_setRow {B : Nat} {w0 w : World} (h : Below B w0 w) {g : Nat} (hg : B ≤ g) (cs : Array Value) : Below B w0 (w.setRow g cs) := by
  obtain ⟨h1, h2, h3, h4, h5⟩ := h
  refine ⟨h1, h2, h3, by simpa [World.setRow] using h4, fun k hk => ?_⟩
  rw [setRow_other w g k cs (by omega)]
  exact h5 k hk
set_option maxHeartbeats 1000000 in
set_option maxRecDepth 100000 in
theorem spread_calls (bB : Nat) (bs : List Int) (w : World) (hb : w.heap[bB]? = some (.cells (nums .u8 bs).toArray 103 (0, 0))) (hl : bs.length = 64) (hby : ∀ x ∈ bs, 0 ≤ x ∧ x < 256) :
    Calls Tryd.prog 66 #[.pointer (some ⟨bB, 0, none⟩)] w fun e w' => e = .returned (.agg (nums .u32 (wds bs)).toArray) ∧ Below w.heap.size w w' := by
  have HBK := Lib.hid hb
  have HL := Lib.hid hl
  have HBY := Lib.hid hby
  have hz := (zero_of_info infoW).1
  have HSZ := Lib.hid (show ∀ l : List Int, l.length ≤ 64 → (Tryd.prog.info? 109).map (·.size) = some (row64 l).toArray.size from fun l h => by rw [(zero_of_info infoW).2]; simp [row64_len h])
  obtain ⟨Z, hZ⟩ : ∃ Z, (row64 []).toArray = Z := ⟨_, rfl⟩
  rw [hZ] at hz
  have HZ := Lib.hid hZ
  clear hb hl hby hZ
  go_enter Tryd.func66, Tryd.ntmps66
  go_wp2_with fail
  have HW := Lib.hid (show ((w.alloc (.cells Z 109)).alloc (.cells Z 109)).heap[w.heap.size + 1]? = some (.cells (row64 ((first16 bs).take 0)).toArray 109 (0, 0)) by
    have := heap_alloc_new (w.alloc (.cells Z 109)) (.cells Z 109)
    rw [World.size_alloc] at this
    rw [this, List.take_zero, HZ.out])
  have HR := Lib.hid (blk_alloc (show (w.alloc (.cells Z 109)).heap[w.heap.size]? = some (.cells Z 109 (0, 0)) by simpa using heap_alloc_new w _) (.cells Z 109))
  have HB := Lib.hid (below_alloc (below_alloc (Below.refl w.heap.size w) (.cells Z 109)) (.cells Z 109))
  have HLT := Lib.hid (show bB < w.heap.size from blk_lt HBK.out)
  obtain ⟨bW, hbW⟩ : ∃ b, w.heap.size + 1 = b := ⟨_, rfl⟩
  rw [hbW] at HW ⊢
  have HBW := Lib.hid (show w.heap.size ≤ bW ∧ w.heap.size ≠ bW by omega)
  clear hbW hz
  go_loopw [10] (fun i wr => ∃ k : Nat, k ≤ 16 ∧ i = .int .i64 (k : Int) ∧ Hid (wr.heap[bW]? = some (.cells (row64 ((first16 bs).take k)).toArray 109 (0, 0)) ∧ wr.heap[w.heap.size]? = some (.cells Z 109 (0, 0)) ∧ Below w.heap.size w wr)) (fun i _ => (16 - intOf i).toNat)
  case atStart => exact ⟨0, by omega, rfl, Lib.hid ⟨HW.out, HR.out, HB.out⟩⟩
  case round =>
    obtain ⟨k, hk, rfl, H⟩ := hrel
    obtain ⟨ho, hrs, hb⟩ := H.out
    have HO := Lib.hid ho
    have HRS := Lib.hid hrs
    have HBB := Lib.hid hb
    clear ho hrs hb H
    by_cases hlt : k < 16
    · have hs : ∀ W, (Instr.sliceAt 103 (.pointer (some ⟨bB, 0, none⟩)) (some (.int .i64 (4 * (k : Int)))) (some (.int .i64 (4 * (k : Int) + 4))) none).run Tryd.prog W = .ok (.slice (some ⟨bB, 4 * k, none⟩) 4 (64 - 4 * k)) W := fun W => by
        have := slice_blk W bB (4 * k) (4 * k + 4) (by omega) (by omega) (by omega)
        simpa using this
      have w4 : wrap64 (4 * (k : Int)) = 4 * (k : Int) := wrap64_id (by omega) (by omega)
      go_wp2_with fail
      refine (big4_calls k hlt (64 - 4 * k) (by omega) ((HBB.out.block bB HLT.out).trans HBK.out) HL.out HBY.out).mono ?_
      rintro e w1 ⟨rfl, hb1⟩
      have hk64 : ((first16 bs).take k).length = k := by simp [first16]; omega
      have ho1 := (hb1.block bW (blk_lt HO.out)).trans HO.out
      have c0 : w1.cell? ⟨bW, k, none⟩ = some (.int .u32 0) := (blk_cell ho1 k).trans (by simp only [row64, nums, hk64]; rw [List.getElem?_toArray, List.getElem?_map, List.getElem?_append_right (by rw [hk64]; exact Nat.le_refl _), hk64, Nat.sub_self, List.getElem?_replicate, if_pos (by omega)]; rfl)
      have f0 := blk_frozen ho1 k
      have HO2 := Lib.hid (show (w1.setCell ⟨bW, k, none⟩ (.int .u32 (big4 bs k))).heap[bW]? = some (.cells (row64 ((first16 bs).take (k + 1))).toArray 109 (0, 0)) by
        have := blk_set ho1 k (.int .u32 (big4 bs k))
        rw [this, take16_step bs k hlt]
        have h2 := row64_set (l := (first16 bs).take k) (by rw [hk64]; omega) (big4 bs k)
        rw [hk64] at h2
        rw [h2])
      have HR2 := Lib.hid (show (w1.setCell ⟨bW, k, none⟩ (.int .u32 (big4 bs k))).heap[w.heap.size]? = some (.cells Z 109 (0, 0)) by
        rw [Below.heap_setCell w1 ⟨bW, k, none⟩ _ w.heap.size HBW.out.2]
        exact (hb1.block _ (blk_lt HRS.out)).trans HRS.out)
      have HB2 := Lib.hid ((HBB.out.trans (Below.mono hb1 HBB.out.size)).setCell (p := ⟨bW, k, none⟩) HBW.out.1 (.int .u32 (big4 bs k)))
      have hw4 := big4_wd bs k
      have u4 : IntKind.u32.wrap (big4 bs k) = big4 bs k := u32w_id hw4.1 hw4.2
      have m4 : big4 bs k % 4294967296 = big4 bs k := Int.emod_eq_of_lt hw4.1 hw4.2
      clear ho1 hb1 hw4
      go_wp2_with fail
      exact ⟨⟨k + 1, by omega, by simp, Lib.hid ⟨HO2.out, HR2.out, HB2.out⟩⟩, by simp only [intOf]; omega⟩
    · obtain rfl : k = 16 := by omega
      have HO0 := Lib.hid (show wr.heap[bW]? = some (.cells (row64 (ext 0 (first16 bs))).toArray 109 (0, 0)) by
        rw [HO.out, show (first16 bs).take 16 = first16 bs from List.take_of_length_le (by simp [first16])]
        rfl)
      clear HO HW HR HB hk hlt
      rw [show ((16 : Nat) : Int) = 16 from rfl]
      go_wp2_with fail
      go_loopw [5] (fun i wr => ∃ n : Nat, n ≤ 48 ∧ i = .int .i64 ((16 + n : Nat) : Int) ∧ Hid (wr.heap[bW]? = some (.cells (row64 (ext n (first16 bs))).toArray 109 (0, 0)) ∧ wr.heap[w.heap.size]? = some (.cells Z 109 (0, 0)) ∧ Below w.heap.size w wr)) (fun i _ => (64 - intOf i).toNat)
      case atStart => exact ⟨0, by omega, rfl, Lib.hid ⟨HO0.out, HRS.out, HBB.out⟩⟩
      case round =>
        obtain ⟨n, hn, rfl, H⟩ := hrel
        obtain ⟨ho, hrs, hb⟩ := H.out
        have HO := Lib.hid ho
        have HRQ := Lib.hid hrs
        have HBQ := Lib.hid hb
        obtain ⟨t, ht⟩ : ∃ t, 16 + n = t := ⟨_, rfl⟩
        have ht1 : 16 ≤ t := by omega
        rw [ht]
        by_cases hlt : t < 64
        · obtain ⟨L, hL⟩ : ∃ L, ext n (first16 bs) = L := ⟨_, rfl⟩
          have hLl : L.length = t := by rw [← hL, ext_len, ← ht]; simp [first16]
          have hLw : ∀ x ∈ L, Wd x := by rw [← hL]; exact ext_wd n _ (first16_wd bs)
          rw [hL] at ho
          have hx15 := rd_wd hLw ((t - 15 : Nat) : Int)
          have hx2 := rd_wd hLw ((t - 2 : Nat) : Int)
          have g15 := (blk_cell ho (t - 15)).trans (row64_get (by omega))
          have g2 := (blk_cell ho (t - 2)).trans (row64_get (by omega))
          have g16 := (blk_cell ho (t - 16)).trans (row64_get (by omega))
          have g7 := (blk_cell ho (t - 7)).trans (row64_get (by omega))
          obtain ⟨x, hx⟩ : ∃ x, rd L ((t - 15 : Nat) : Int) = x := ⟨_, rfl⟩
          obtain ⟨y, hy⟩ : ∃ x, rd L ((t - 2 : Nat) : Int) = x := ⟨_, rfl⟩
          obtain ⟨p, hp⟩ : ∃ x, rd L ((t - 16 : Nat) : Int) = x := ⟨_, rfl⟩
          obtain ⟨q, hq⟩ : ∃ x, rd L ((t - 7 : Nat) : Int) = x := ⟨_, rfl⟩
          rw [hx] at g15 hx15
          rw [hy] at g2 hx2
          rw [hp] at g16
          rw [hq] at g7
          have HX := Lib.hid (And.intro hx15 hx2)
          have HP := Lib.hid (And.intro hx (And.intro hy (And.intro hp (And.intro hq (And.intro hLl hL)))))
          have e15 : ((t : Int) - 15).toNat = t - 15 := by omega
          have e2 : ((t : Int) - 2).toNat = t - 2 := by omega
          have e16 : ((t : Int) - 16).toNat = t - 16 := by omega
          have e7 : ((t : Int) - 7).toNat = t - 7 := by omega
          clear ho hrs hb H hx hy hp hq hx15 hx2 hLl hLw hL
          go_wp2_with fail
          go_quiet (fail)
          go_wp2_with fail
          refine (octet_Right32.calls x 7 _ _ (oright_I HX.out.1 7 (by decide))).mono ?_
          rintro e w5 ⟨rfl, ⟨m1, rfl⟩⟩
          rw [World.drewN_drewN]
          go_wp2_with fail
          refine (octet_Right32.calls x 18 _ _ (oright_I HX.out.1 18 (by decide))).mono ?_
          rintro e w5 ⟨rfl, ⟨m2, rfl⟩⟩
          rw [World.drewN_drewN]
          have s3 := shr3 HX.out.1
          go_wp2_with fail
          refine (octet_Right32.calls y 17 _ _ (oright_I HX.out.2 17 (by decide))).mono ?_
          rintro e w5 ⟨rfl, ⟨m3, rfl⟩⟩
          rw [World.drewN_drewN]
          go_wp2_with fail
          refine (octet_Right32.calls y 19 _ _ (oright_I HX.out.2 19 (by decide))).mono ?_
          rintro e w5 ⟨rfl, ⟨m4, rfl⟩⟩
          rw [World.drewN_drewN]
          have s10 := shr10 HX.out.2
          go_wp2_with fail
          obtain ⟨wq, hwq⟩ : ∃ wq, wr.drewN (nq + m1 + m2 + m3 + m4) = wq := ⟨_, rfl⟩
          rw [hwq]
          have hoq : wq.heap[bW]? = some (.cells (row64 (ext n (first16 bs))).toArray 109 (0, 0)) := by rw [← hwq]; exact HO.out
          have hrq : wq.heap[w.heap.size]? = some (.cells Z 109 (0, 0)) := by rw [← hwq]; exact HRQ.out
          have hbq : Below w.heap.size w wq := by rw [← hwq]; exact pw_below_drewN HBQ.out _
          have c0 := (blk_cell hoq t).trans (row64_rest HP.out.2.2.2.2.1 HP.out.2.2.2.2.2 hlt)
          have f0 := blk_frozen hoq t
          rw [HP.out.2.2.2.2.2] at hoq
          have g16 := (blk_cell hoq (t - 16)).trans (row64_get (by have := HP.out.2.2.2.2.1; omega))
          have g7 := (blk_cell hoq (t - 7)).trans (row64_get (by have := HP.out.2.2.2.2.1; omega))
          rw [HP.out.2.2.1] at g16
          rw [HP.out.2.2.2.1] at g7
          have HO2 := Lib.hid (blk_set hoq t)
          have HR2 := Lib.hid (fun u => (Below.heap_setCell wq ⟨bW, t, none⟩ u w.heap.size HBW.out.2).trans hrq)
          have HB2 := Lib.hid (fun u => hbq.setCell (p := ⟨bW, t, none⟩) HBW.out.1 u)
          clear hoq hrq hbq hwq
          obtain ⟨s, hs⟩ : ∃ s, sg0 x = s := ⟨_, rfl⟩
          obtain ⟨r, hr⟩ : ∃ r, sg1 y = r := ⟨_, rfl⟩
          have hs' : Go.bits .xor .u32 (Go.bits .xor .u32 (rrI x 7) (rrI x 18)) (x / 8) = s := hs
          have hr' : Go.bits .xor .u32 (Go.bits .xor .u32 (rrI y 17) (rrI y 19)) (y / 1024) = r := hr
          rw [hs', hr']
          have HSR := Lib.hid (And.intro hs hr)
          obtain ⟨j16, hj16⟩ : ∃ j, t - 16 = j := ⟨_, rfl⟩
          obtain ⟨j7, hj7⟩ : ∃ j, t - 7 = j := ⟨_, rfl⟩
          have w16 : wrap64 ((t : Int) - 16) = (j16 : Int) := (wrap64_id (by omega) (by omega)).trans (by omega)
          have w7 : wrap64 ((t : Int) - 7) = (j7 : Int) := (wrap64_id (by omega) (by omega)).trans (by omega)
          have v16 : IntKind.i64.wrap ((t : Int) - 16) = (j16 : Int) := by rw [IntKind.wrap_i64]; omega
          have v7 : IntKind.i64.wrap ((t : Int) - 7) = (j7 : Int) := by rw [IntKind.wrap_i64]; omega
          have b16 : j16 < 64 := by omega
          have b7 : j7 < 64 := by omega
          have b16' : (j16 : Int) < 64 := by omega
          have b7' : (j7 : Int) < 64 := by omega
          have bt' : (t : Int) < 64 := by omega
          rw [hj16] at g16
          rw [hj7] at g7
          clear hs hr hs' hr' g15 g2 e15 e2 e16 e7 hj16 hj7
          go_still_tail 15, (by kernel_rfl)
          change wpList _ _ _ _ _ wq.drew
          go_wp2
          go_roundw
          case rel =>
            refine ⟨n + 1, by omega, congrArg (Value.int .i64) (by omega), Lib.hid ⟨?_, (HR2.out _ :), below_drew (HB2.out _)⟩⟩
            rw [ext_step, HP.out.2.2.2.2.2, wAt_of HP.out.2.2.2.2.1 HP.out.1 HP.out.2.1 HP.out.2.2.1 HP.out.2.2.2.1, HSR.out.1, HSR.out.2]
            have h2 := row64_set (l := L) (by rw [HP.out.2.2.2.2.1]; exact hlt) (add32 (add32 (add32 p s) q) r)
            rw [HP.out.2.2.2.2.1] at h2
            rw [← h2, show add32 (add32 (add32 p s) q) r = (p + s + q + r) % 4294967296 by unfold add32; omega]
            exact HO2.out _
          case measure =>
            show (64 - ((t : Int) + 1)).toNat < (64 - (t : Int)).toNat
            omega
        · obtain rfl : t = 64 := by omega
          have hn48 : n = 48 := by omega
          subst hn48
          have HOF : Hid (wr.heap[bW]? = some (.cells (nums .u32 (wds bs)).toArray 109 (0, 0))) := Lib.hid (by rw [ho, ← row64_full (wds_len bs)]; rfl)
          have hwl := wds_len bs
          have HS2 := Lib.hid (show (Tryd.prog.info? 109).map (·.size) = some (nums .u32 (wds bs)).toArray.size by rw [(zero_of_info infoW).2]; simp [nums, hwl])
          have HZS := Lib.hid (show Z.size = (nums .u32 (wds bs)).toArray.size by rw [← HZ.out]; simp [nums, hwl, row64_len])
          have HO1 := Lib.hid (all_oneCell_toArray (nums_one .u32 (wds bs)))
          obtain ⟨V, hV⟩ : ∃ V, (nums .u32 (wds bs)).toArray = V := ⟨_, rfl⟩
          rw [hV] at HOF HS2 HZS HO1
          have HV := Lib.hid hV
          have HR3 : Hid (Value.agg (nums .u32 (wds bs)).toArray = .agg V) := Lib.hid (by rw [hV])
          clear ho hrs hb H hwl hV HO
          go_wp2_with (first | (refine wpList_load_row rfl 109 (.tmp 3) rfl bW rfl 109 V (0, 0) _ HOF.out Tryd.underlying109 rfl HS2.out ?_) | (refine wpList_store_row rfl 109 (.tmp 2) (.tmp 69) rfl w.heap.size V rfl rfl 109 Z HRQ.out HS2.out HZS.out HO1.out ?_))
          exact bodyPost_ret (results_cell_row rfl _ _ w.heap.size 109 V (0, 0) _ rfl (setRow_heap _ _ _ _ _ _ HRQ.out) Tryd.underlying109 rfl HS2.out) rfl ⟨by rw [HR3.out], below_setRow HBQ.out (Nat.le_refl _) _⟩
end Go.Proofs.YtefnpecncacepaaDoor.Hand
