/- rice.Get over the bit reader. -/
import Derived.Test.YtakpohcobpbjkaaProg
import Derived.Below
import Derived.Deep.Draws
import Derived.Deep.AppendLies
import Derived.Maps.AppendAt
import Derived.OwnWalk
import Derived.Laws.BytesArg
import Derived.Laws.MakeOwn
import Derived.Laws.OwnMore
import Derived.Deep.OwnRows
import Derived.Tactics
import Derived.Lib.ConvBytes
import Derived.Laws.Slices
import Derived.WalkKit
import Derived.KernelRfl
import Derived.RowKit3
import Derived.Deep.LoopGhost
import Derived.Deep.QuietTactic
import Derived.BigQuiet
import Derived.WideLaws
import Derived.Deep.DeepCutAuto
import Derived.Deep.CutBlock
import Derived.Deep.RegionHeld3
import Derived.Laws.Rows
import Derived.Lib.AppendStr
import Derived.ArgAppend
import Derived.Laws.IdiomCopy
import Derived.OrdersHeld
import Derived.Laws.BitsLemmas
import Derived.RowKit
import Derived.StillTailTactics
import Derived.Test.YtakpohcobpbjkaaWWords
import Derived.Test.YtakpohcobpbjkaaWLast
import Derived.Test.YtakpohcobpbjkaaWMore
import Derived.Lib.Hide
import Derived.LaidEql
import Derived.Outline
import Derived.Test.YtakpohcobpbjkaaRice
import Derived.Test.YtakpohcobpbjkaaReader3
namespace Go.Proofs.Ytakpohcobpbjkaa.Hand
open Go Go.RowKit Go.Proofs.Ytakpohcobpbjkaa.Plain Go.Proofs.Ytakpohcobpbjkaa.PAll Go.Proofs.YtakpohcobpbjkaaW.PrintWords Go.Proofs.YtakpohcobpbjkaaW.PrintLast Go.Proofs.YtakpohcobpbjkaaW.PrintMore
attribute [local go_sem] max2_int min2_int max_two min_two max_three min_three max_four min_four
set_option linter.unusedVariables false
set_option linter.unusedSimpArgs false
/-- What Get answers: the number, the error, how many bits are taken. -/
def getOf (s : List Bool) (p : Int) (most : Int) : Nat × Int × Nat :=
  let r := runOf s (mx (mn most 65536) 0).toNat
  if r.2.1 = 0 then
    let t := takeOf (s.drop r.2.2) (hp p)
    if t.2.1 = 0 then (r.1 * 2 ^ hp p + t.1, 0, r.2.2 + t.2.2) else (0, t.2.1, 0)
  else (0, r.2.1, 0)
/-- A copy of a reader. -/
theorem IsRd.copy {w : World} {B g : Nat} {bs : List Int} {n : Int} (h : IsRd w B g bs n) : ∃ A c, w.cell? ⟨g, 0, none⟩ = some (.slice A bs.length c) ∧ w.cell? ⟨g, 1, none⟩ = some (.int .i64 n) ∧
    IsS61 (trunc w g) (w.alloc (.cells #[.slice A bs.length c, .int .i64 n] 61)) w.heap.size bs n ∧ Below (trunc w g).heap.size (trunc w g) (w.alloc (.cells #[.slice A bs.length c, .int .i64 n] 61)) := by
  have hlt := h.lt
  obtain ⟨hB, A, c, hb, _, hC⟩ := h
  refine ⟨A, c, (blk_cell hb 0).trans rfl, (blk_cell hb 1).trans rfl, ⟨A, c, by simpa using heap_alloc_new w _, by rw [trunc_size hlt]; omega, hC⟩, below_alloc (below_trunc hlt) _⟩
/-- The copy is put back. -/
theorem IsRd.back {w w1 w3 : World} {B g : Nat} {bs : List Int} {n m : Int} (h : IsRd w B g bs n) (hI : IsS61 (trunc w g) w3 w.heap.size bs m) (hb : Below (trunc w g).heap.size (trunc w g) w3) (hk1 : Below w.heap.size w w1) (hk : KeepBut w1 w3 w.heap.size none) :
    ∃ A c A' c', w3.cell? ⟨w.heap.size, 0, none⟩ = some (.slice A' bs.length c') ∧ w3.cell? ⟨w.heap.size, 1, none⟩ = some (.int .i64 m) ∧ w3.cell? ⟨g, 0, none⟩ = some (.slice A bs.length c) ∧ w3.cell? ⟨g, 1, none⟩ = some (.int .i64 n) ∧
      w3.frozen? ⟨g, 0, none⟩ = false ∧ w3.frozen? ⟨g, 1, none⟩ = false ∧
      IsRd ((w3.setCell ⟨g, 0, none⟩ (.slice A' bs.length c')).setCell ⟨g, 1, none⟩ (.int .i64 m)) B g bs m ∧ Below B w ((w3.setCell ⟨g, 0, none⟩ (.slice A' bs.length c')).setCell ⟨g, 1, none⟩ (.int .i64 m)) := by
  have hlt := h.lt
  obtain ⟨hB, A, c, hg, _, hC⟩ := h
  obtain ⟨A', c', hg2, _, hC'⟩ := hI
  have hsame : ∀ i, i < w.heap.size → w3.heap[i]? = w.heap[i]? := fun i hi => (hk.2 i (by have := hk1.size; omega) (by omega) (by simp)).trans (hk1.block i hi)
  have hg3 := (hsame g hlt).trans hg
  have hs := blk_set (blk_set hg3 0 (.slice A' bs.length c')) 1 (.int .i64 m)
  have hlt3 := (Array.getElem?_eq_some_iff.1 hs).1
  refine ⟨A, c, A', c', (blk_cell hg2 0).trans rfl, (blk_cell hg2 1).trans rfl, (blk_cell hg3 0).trans rfl, (blk_cell hg3 1).trans rfl, blk_frozen hg3 0, blk_frozen hg3 1, IsRd.mk hB hs (C_moved hC' fun a x hx => ?_), ?_⟩
  · obtain ⟨h1, h2⟩ := (cell_trunc hlt).1 hx
    refine (cell_trunc hlt3).2 ⟨h1, ?_⟩
    rw [← h2]
    apply World.cell?_of_block
    rw [Below.heap_setCell _ _ _ _ (show a.block ≠ g by omega), Below.heap_setCell _ _ _ _ (show a.block ≠ g by omega)]
    exact hsame _ (by omega)
  · have hb0 : Below B w w3 := by
      have h2 := below_trunc hlt
      exact ⟨hb.os.trans h2.os.symm, hb.tape.trans h2.tape.symm, hb.output.trans h2.output.symm, Nat.le_trans hk1.size hk.1, fun i hi => hsame i (by omega)⟩
    exact (hb0.setCell (p := ⟨g, 0, none⟩) hB _).setCell (p := ⟨g, 1, none⟩) hB _
theorem IsRd.aside {w w1 w3 : World} {B g : Nat} {bs : List Int} {n : Int} (h : IsRd w B g bs n) (hb : Below (trunc w g).heap.size (trunc w g) w3) (hk1 : Below w.heap.size w w1) (hk : KeepBut w1 w3 w.heap.size none) : IsRd w3 B g bs n ∧ Below B w w3 := by
  have hlt := h.lt
  have h2 := below_trunc hlt
  have hb0 : Below w.heap.size w w3 := ⟨hb.os.trans h2.os.symm, hb.tape.trans h2.tape.symm, hb.output.trans h2.output.symm, Nat.le_trans hk1.size hk.1, fun i hi => (hk.2 i (by have := hk1.size; omega) (by omega) (by simp)).trans (hk1.block i hi)⟩
  have hB := h.1
  exact ⟨h.later hb0, Below.mono hb0 (by omega)⟩
set_option maxHeartbeats 4000000 in
set_option maxRecDepth 100000 in
theorem get_calls {w : World} {B g : Nat} {bs : List Int} {p0 : Nat} (h : IsRd w B g bs (p0 : Int)) (hb : ∀ x ∈ bs, 0 ≤ x ∧ x < 256) (hl : bs.length ≤ 1000) (hp0 : p0 ≤ 8 * bs.length) (p most : Int) :
    Calls Try.prog 22 #[.pointer (some ⟨g, 0, none⟩), .int .i64 p, .int .i64 most] w fun e w' => e = .returned (.tuple #[.int .u64 (getOf ((allOf bs).drop p0) p most).1, .int .i64 (getOf ((allOf bs).drop p0) p most).2.1]) ∧
      IsRd w' B g bs ((p0 + (getOf ((allOf bs).drop p0) p most).2.2 : Nat) : Int) ∧ Below B w w' := by
  obtain ⟨A, c, hc0, hc1, hI, hB1⟩ := h.copy
  obtain ⟨m1, hm1⟩ : ∃ m1 : Int, mn most 65536 = m1 := ⟨_, rfl⟩
  have em : (if 65536 < most then 65536 else most) = m1 := hm1
  have hm1' : m1 ≤ 65536 := by rw [← em]; split <;> omega
  obtain ⟨⟨rv, re, rc⟩, hrun⟩ : ∃ x, runOf ((allOf bs).drop p0) (mx m1 0).toNat = x := ⟨_, rfl⟩
  have hrl := runOf_le ((allOf bs).drop p0) (mx m1 0).toNat
  have hrt := run_tells bs hb hl p0 hp0 m1 (by omega) (8 * bs.length + 1) (by omega)
  have hrb : rv ≤ 65536 := by
    have h1 : (runOf ((allOf bs).drop p0) (mx m1 0).toNat).1 ≤ (mx m1 0).toNat := by
      unfold runOf
      repeat' split
      all_goals first | omega | (simp; done) | (simp only; omega)
    rw [hrun] at h1
    have h2 : (mx m1 0).toNat ≤ 65536 := by unfold mx; split <;> omega
    simp only at h1
    omega
  rw [hrun] at hrl hrt
  simp only at hrl hrt
  have hgo : getOf ((allOf bs).drop p0) p most = if re = 0 then (if (takeOf (((allOf bs).drop p0).drop rc) (hp p)).2.1 = 0 then (rv * 2 ^ hp p + (takeOf (((allOf bs).drop p0).drop rc) (hp p)).1, 0, rc + (takeOf (((allOf bs).drop p0).drop rc) (hp p)).2.2) else (0, (takeOf (((allOf bs).drop p0).drop rc) (hp p)).2.1, 0)) else (0, re, 0) := by
    unfold getOf
    rw [hm1]
    simp only [hrun]
  have H := Lib.hid h
  have HI := Lib.hid hI
  have HB1 := Lib.hid hB1
  have HRT := Lib.hid hrt
  have hdd : ((allOf bs).drop p0).drop rc = (allOf bs).drop (p0 + rc) := by rw [List.drop_drop]
  rw [hdd] at hgo
  clear hm1 hrt h hI hB1 hrun hdd
  have hqc : (0 ≤ (hp p : Int)) = True := eq_true (Int.natCast_nonneg _)
  by_cases hre : re = 0
  · subst hre
    rw [if_pos rfl] at hgo
    have hp2 : p0 + rc ≤ 8 * bs.length := by rw [List.length_drop, allOf_length] at hrl; omega
    have hmh : mn (mx ((hp p : Nat) : Int) 0) 64 = ((hp p : Nat) : Int) := by have := hp_le p; unfold mn mx; rw [if_neg (show ¬ ((hp p : Nat) : Int) < 0 by omega), if_neg (by omega)]
    have htt := take_tells bs hb hl (p0 + rc) hp2 (hp p : Int) 100 (by omega)
    rw [hmh, Int.toNat_natCast] at htt
    have htl : (takeOf ((allOf bs).drop (p0 + rc)) (hp p)).1 < 2 ^ hp p := by
      unfold takeOf
      split
      · exact Nat.two_pow_pos _
      · have := nv_lt (((allOf bs).drop (p0 + rc)).take (hp p))
        have h3 : (((allOf bs).drop (p0 + rc)).take (hp p)).length ≤ hp p := by simp; omega
        exact Nat.lt_of_lt_of_le this (Nat.pow_le_pow_right (by decide) h3)
    obtain ⟨⟨tv, te, tc⟩, htk⟩ : ∃ x, takeOf ((allOf bs).drop (p0 + rc)) (hp p) = x := ⟨_, rfl⟩
    rw [htk] at htt htl hgo
    simp only at htt htl hgo
    have HTT := Lib.hid htt
    clear htt htk hmh hp2 hrl
    by_cases hte : te = 0
    · subst hte
      rw [if_pos rfl] at hgo
      have hqp : 2 ^ hp p ≤ 2 ^ 32 := Nat.pow_le_pow_right (by decide) (hp_le p)
      have hmul : rv * 2 ^ hp p ≤ 65536 * 2 ^ 32 := Nat.mul_le_mul hrb hqp
      have z1 : IntKind.u64.wrap (rv : Int) = (rv : Int) := u64w_id (by omega) (by omega)
      have ec : ((rv : Nat) : Int) * 2 ^ hp p = ((rv * 2 ^ hp p : Nat) : Int) := by simp
      have z2 : IntKind.u64.wrap ((rv : Int) * 2 ^ hp p) = ((rv * 2 ^ hp p : Nat) : Int) := by rw [ec, u64w_id (by omega) (by omega)]
      have hz : (rv * 2 ^ hp p) % 2 ^ hp p = 0 := Nat.mul_mod_left _ _
      have z3 : Go.bits .or .u64 ((rv * 2 ^ hp p : Nat) : Int) ((tv : Nat) : Int) = ((rv * 2 ^ hp p + tv : Nat) : Int) := by
        rw [or64 (hp p) (Int.natCast_nonneg _) (by exact_mod_cast htl) (by omega) (Int.natCast_nonneg _) (by exact_mod_cast hz) (by omega)]
        omega
      have HGO := Lib.hid hgo
      have hre : ((0 : Int) != 0) = false := rfl
      have HTC := Lib.hid (show ((p0 + rc + tc : Nat) : Int) = ((p0 + (rc + tc) : Nat) : Int) by omega)
      clear hgo ec hz hqp hmul
      go_enter Try.func22, Try.ntmps22
      go_wp2_with fail
      refine (held12_calls p _).mono ?_
      rintro e w1 ⟨rfl, rfl⟩
      go_wp2_with fail
      have HK1 := Lib.hid (below_alloc (Below.refl w.heap.size w) (.cells #[.slice A bs.length c, .int .i64 (p0 : Int)] 61))
      refine (bit_Reader_Run.calls (8 * bs.length + 1) w.heap.size bs (p0 : Int) m1 _ _ _ _ _ HI.out HB1.out HRT.out).mono ?_
      rintro e w2 ⟨rfl, hI2, hB2, hK2⟩
      have HI2 := Lib.hid hI2
      have HB2 := Lib.hid hB2
      have HK2 := Lib.hid hK2
      clear hI2 hB2 hK2 hc0 hc1
      go_wp2_with fail
      refine (bit_Reader_Take.calls 100 w.heap.size bs ((p0 + rc : Nat) : Int) (hp p : Int) _ _ _ _ _ HI2.out HB2.out HTT.out).mono ?_
      rintro e w3 ⟨rfl, hI3, hB3, hK3⟩
      obtain ⟨A1, c1, A2, c2, d0, d1, e0, e1, f0, f1, hback, hbel⟩ := H.out.back hI3 hB3 HK1.out (HK2.out.trans hK3 (.inl rfl))
      simp only [Int.natCast_add] at hback hbel
      have HBK := Lib.hid hback
      have HBE := Lib.hid hbel
      clear hI3 hB3 hK3 hback hbel HI2 HB2 HK2
      go_wp2
      go_ret2
      refine ⟨?_, ?_, HBE.out⟩
      · rw [HGO.out]
        have hv : bits .or .u64 (IntKind.u64.wrap ((rv : Int) * 2 ^ min (hp p) 64)) (tv : Int) = ((rv * 2 ^ hp p + tv : Nat) : Int) := by rw [Nat.min_eq_left (by have := hp_le p; omega), z2, z3]
        rw [hv]
        rfl
      · rw [HGO.out]
        simp only [Int.natCast_add, ← Int.add_assoc]
        exact HBK.out
    · have hteb : (te != 0) = true := by simpa using hte
      rw [if_neg hte] at hgo
      have HGO := Lib.hid hgo
      have hre : ((0 : Int) != 0) = false := rfl
      clear hgo hte
      go_enter Try.func22, Try.ntmps22
      go_wp2_with fail
      refine (held12_calls p _).mono ?_
      rintro e w1 ⟨rfl, rfl⟩
      go_wp2_with fail
      have HK1 := Lib.hid (below_alloc (Below.refl w.heap.size w) (.cells #[.slice A bs.length c, .int .i64 (p0 : Int)] 61))
      refine (bit_Reader_Run.calls (8 * bs.length + 1) w.heap.size bs (p0 : Int) m1 _ _ _ _ _ HI.out HB1.out HRT.out).mono ?_
      rintro e w2 ⟨rfl, hI2, hB2, hK2⟩
      have HI2 := Lib.hid hI2
      have HB2 := Lib.hid hB2
      have HK2 := Lib.hid hK2
      clear hI2 hB2 hK2 hc0 hc1
      go_wp2_with fail
      refine (bit_Reader_Take.calls 100 w.heap.size bs ((p0 + rc : Nat) : Int) (hp p : Int) _ _ _ _ _ HI2.out HB2.out HTT.out).mono ?_
      rintro e w3 ⟨rfl, hI3, hB3, hK3⟩
      have HD := Lib.hid (H.out.aside hB3 HK1.out (HK2.out.trans hK3 (.inl rfl)))
      clear hI3 hB3 hK3 HI2 HB2 HK2
      go_wp2
      go_ret2
      exact ⟨by rw [HGO.out]; rfl, by rw [HGO.out]; exact HD.out.1, HD.out.2⟩
  · have hreb : (re != 0) = true := by simpa using hre
    rw [if_neg hre] at hgo
    have HGO := Lib.hid hgo
    clear hgo hre hrl
    go_enter Try.func22, Try.ntmps22
    go_wp2_with fail
    refine (held12_calls p _).mono ?_
    rintro e w1 ⟨rfl, rfl⟩
    go_wp2_with fail
    have HK1 := Lib.hid (below_alloc (Below.refl w.heap.size w) (.cells #[.slice A bs.length c, .int .i64 (p0 : Int)] 61))
    refine (bit_Reader_Run.calls (8 * bs.length + 1) w.heap.size bs (p0 : Int) m1 _ _ _ _ _ HI.out HB1.out HRT.out).mono ?_
    rintro e w2 ⟨rfl, hI2, hB2, hK2⟩
    have HD := Lib.hid (H.out.aside hB2 HK1.out hK2)
    clear hI2 hB2 hK2 hc0 hc1
    go_wp2
    go_ret2
    exact ⟨by rw [HGO.out]; rfl, by rw [HGO.out]; exact HD.out.1, HD.out.2⟩
end Go.Proofs.Ytakpohcobpbjkaa.Hand
