/- CodecStays: walked. -/
import Derived.Test.YtigmkbkmfhlimaaProg
import Derived.Below
import Derived.Deep.Draws
import Derived.Deep.AppendLies
import Derived.Maps.AppendAt
import Derived.OwnWalk
import Derived.Laws.BytesArg
import Derived.Laws.MakeOwn
import Derived.Laws.OwnMore
import Derived.Deep.OwnRows
import Derived.Tactics
import Derived.Lib.ConvBytes
import Derived.Laws.Slices
import Derived.WalkKit
import Derived.KernelRfl
import Derived.RowKit3
import Derived.Deep.LoopGhost
import Derived.Deep.QuietTactic
import Derived.BigQuiet
import Derived.WideLaws
import Derived.Deep.DeepCutAuto
import Derived.Deep.CutBlock
import Derived.Deep.RegionHeld3
import Derived.Laws.Rows
import Derived.Lib.AppendStr
import Derived.ArgAppend
import Derived.Laws.IdiomCopy
import Derived.OrdersHeld
import Derived.Laws.BitsLemmas
import Derived.RowKit
import Derived.StillTailTactics
import Derived.Test.YtigmkbkmfhlimaaWWords
import Derived.Test.YtigmkbkmfhlimaaWLast
import Derived.Test.YtigmkbkmfhlimaaWMore
import Derived.Lib.Hide
import Derived.LaidEql
import Derived.Outline
import Derived.Deep.RegionLaw
import Derived.Deep.RegionHeld3
import Derived.BigRegion
import Derived.Test.YtigmkbkmfhlimaaAwake
import Derived.Test.YtigmkbkmfhlimaaWriter
import Derived.Test.YtigmkbkmfhlimaaReader2
import Derived.Test.YtigmkbkmfhlimaaOpens
import Derived.Test.YtigmkbkmfhlimaaCount
namespace Go.Proofs.Ytigmkbkmfhlimaa.Hand
open Go Go.RowKit Go.Proofs.Ytigmkbkmfhlimaa.Plain Go.Proofs.Ytigmkbkmfhlimaa.PAll Go.Proofs.YtigmkbkmfhlimaaW.PrintWords Go.Proofs.YtigmkbkmfhlimaaW.PrintLast Go.Proofs.YtigmkbkmfhlimaaW.PrintMore
attribute [local go_sem] max2_int min2_int max_two min_two max_three min_three max_four min_four
set_option linter.unusedVariables false
set_option linter.unusedSimpArgs false
/-- A part: (Kind, N, M, B). -/
abbrev Part := Int × Int × Int × List Int
def kOp : Kd Part := Kd.pair (Kd.int .i64) (Kd.pair (Kd.int .u64) (Kd.pair (Kd.int .i64) (Kd.slice 5 (Kd.int .u8))))
def zOp : Part := (0, 0, 0, [])
def rdP (xs : List Part) (i : Int) : Part := xs.getD i.toNat zOp
theorem kOp_open {w : World} {x : Part} {cs : List Value} (h : kOp.K w x cs) : ∃ A c, cs = [.int .i64 x.1, .int .u64 x.2.1, .int .i64 x.2.2.1, .slice A x.2.2.2.length c] ∧ x.2.2.2.length ≤ c ∧ Kd.C (Kd.int .u8) w A x.2.2.2.length x.2.2.2 := by
  obtain ⟨_, _, rfl, rfl, ⟨_, _, rfl, rfl, ⟨_, _, rfl, rfl, ⟨A, c, rfl, hl, hC⟩⟩⟩⟩ := h
  exact ⟨A, c, rfl, hl, hC⟩
theorem at_op {w : World} {A : Option Addr} {n : Nat} {xs : List Part} (h : Kd.C kOp w A n xs) (i : Int) (h0 : 0 ≤ i) (h1 : i < n) : ∃ ad A' c', A = some ad ∧ w.cell? (ad.add (i.toNat * 4)) = some (.int .i64 (rdP xs i).1) ∧ w.cell? ⟨(ad.add (i.toNat * 4)).block, (ad.add (i.toNat * 4)).off + 1, none⟩ = some (.int .u64 (rdP xs i).2.1) ∧ w.cell? ⟨(ad.add (i.toNat * 4)).block, (ad.add (i.toNat * 4)).off + 2, none⟩ = some (.int .i64 (rdP xs i).2.2.1) ∧ w.cell? ⟨(ad.add (i.toNat * 4)).block, (ad.add (i.toNat * 4)).off + 3, none⟩ = some (.slice A' (rdP xs i).2.2.2.length c') ∧ (rdP xs i).2.2.2.length ≤ c' ∧ Kd.C (Kd.int .u8) w A' (rdP xs i).2.2.2.length (rdP xs i).2.2.2 := by
  obtain ⟨ad, c, e, _, hK, hc0⟩ := Kd.C_get h zOp i h0 h1
  have hc : ∀ j u, c[j]? = some u → w.cell? (ad.add (i.toNat * 4 + j)) = some u := hc0
  obtain ⟨A', c', rfl, hl, hC⟩ := kOp_open hK
  exact ⟨ad, A', c', e, hc 0 _ rfl, by rw [← add_field _ _ 1 (by omega)]; exact hc 1 _ rfl, by rw [← add_field _ _ 2 (by omega)]; exact hc 2 _ rfl, by rw [← add_field _ _ 3 (by omega)]; exact hc 3 _ rfl, hl, hC⟩
theorem rdP_mem {xs : List Part} {i : Int} (h0 : 0 ≤ i) (h1 : i < (xs.length : Int)) : rdP xs i ∈ xs := by
  unfold rdP
  rw [List.getD_eq_getElem?_getD, List.getElem?_eq_getElem (by omega)]
  exact List.getElem_mem _
theorem RKeep.blk {w w1 : World} {B g k : Nat} {o : Obj} (h : RKeep w w1 B g) (hb : w.heap[k]? = some o) (hne : k ≠ g) : w1.heap[k]? = some o := (h.2.2 k (blk_lt hb) hne (by simp)).trans hb
theorem val_nil : val [] = 0 := rfl
theorem takeR_two (bs : List Int) (n : Int) : takeR bs 0 2 n = ([], 0, 2) := by unfold takeR; rw [if_pos (by decide)]
theorem numR_two (bs : List Int) (n : Int) : numR bs 0 2 n = (0, 0, 2) := by unfold numR; rw [takeR_two]; rfl
theorem varR_two (bs : List Int) (n : Int) : varR bs 0 2 n = (0, 0, 2) := by
  unfold varR spellR
  rw [numR_two]
  rfl
theorem textR_two (bs : List Int) (n : Int) : textR bs 0 2 n = ([], 0, 2) := by
  unfold textR
  rw [varR_two, takeR_two]
  rfl
theorem endR_two (bs : List Int) : endR bs 0 2 = 2 := by unfold endR; rw [if_neg (by omega)]
set_option maxHeartbeats 8000000 in
set_option maxRecDepth 100000 in
theorem stays_calls (A : Option Addr) (c : Nat) (bs : List Int) (A1 : Option Addr) (c1 : Nat) (xs : List Part) (w : World) (hr : Kd.C (Kd.int .u8) w A bs.length bs) (hc : bs.length ≤ c) (hlen : bs.length < 140737488355328) (hb : ∀ x ∈ bs, 0 ≤ x ∧ x < 256)
    (hr1 : Kd.C kOp w A1 xs.length xs) (hm : xs.length ≤ 9223372036854775807) (hwf : ∀ x ∈ xs, x.2.2.1 ≤ 9223372036854775807) :
    Calls Try.prog 5 #[.slice A bs.length c, .slice A1 xs.length c1] w fun e w' => e = .returned (.bool true) ∧ Below w.heap.size w w' := by
  have HR := Lib.hid hr
  have HC := Lib.hid hc
  have HBY := Lib.hid hb
  have HL := Lib.hid hlen
  have HR1 := Lib.hid hr1
  have HWF := Lib.hid hwf
  by_cases h60 : 60 < bs.length
  · have f1 : decide (60 < (bs.length : Int)) = true := decide_eq_true (by omega)
    clear hr hc hb hlen hr1 hwf h60
    go_enter Try.func5, Try.ntmps5
    go_wp2_with fail
    refine (cof_calls A _ c bs _ rfl HR.out HC.out HL.out).mono ?_
    rintro e w1 ⟨g, rfl, hg1, hp1, hb1⟩
    have HB1 := Lib.hid hb1
    clear hp1 hb1 hg1
    go_wp2_with fail
    refine (awake_calls _).mono ?_
    rintro e w3 ⟨rfl, hb3⟩
    have HB3 := Lib.hid (HB1.out.trans (Below.mono hb3 HB1.out.size))
    clear hb3
    go_wp2
    go_ret
    exact ⟨rfl, HB3.out⟩
  · have f1 : decide (60 < (bs.length : Int)) = false := decide_eq_false (by omega)
    have hs60 : (bs.length : Int) ≤ 60 := by omega
    have HS : Hid (bs.length ≤ 100) := Lib.hid (by omega)
    have HT0 := Lib.hid (show takeR bs 0 0 ((bs.length : Int) + 1) = ([], 0, 2) by unfold takeR; rw [if_neg (by decide), if_pos (by omega)])
    have e0 := Lib.hid (show (bs.length : Int) - ((0 : Nat) : Int) = (bs.length : Int) by omega)
    clear hr hc hb hlen hr1 hwf h60
    go_enter Try.func5, Try.ntmps5
    go_wp2_with fail
    refine (cof_calls A _ c bs _ rfl HR.out HC.out HL.out).mono ?_
    rintro e w1 ⟨g, rfl, hg1, hp1, hb1⟩
    have HP1 := Lib.hid hp1
    have HB1 := Lib.hid hb1
    clear hp1 hb1 hg1
    go_wp2_with fail
    have hh := ctake_calls (p := 0) HP1.out (Nat.zero_le _) (by have := HS.out; omega) ((bs.length : Int) + 1) (by have := HS.out; omega)
    rw [HT0.out] at hh
    refine hh.mono ?_
    rintro e w2 ⟨v, rfl, _, hp2, hk2⟩
    have HP2 := Lib.hid hp2
    have HB2 := Lib.hid (HB1.out.trans hk2.1)
    clear hh hp2 hk2
    go_wp2_with fail
    refine (cerr_calls HP2.out).mono ?_
    rintro e w3 ⟨rfl, rfl⟩
    clear HP1 HB1
    go_wp2_with fail
    go_loopw [26] (fun i wr => ∃ (k : Int), 0 ≤ k ∧ k ≤ 12 ∧ k ≤ (xs.length : Int) ∧ i = .int .i64 k ∧ Hid (IsR wr w.heap.size g bs ((0 : Nat) : Int) 2 ∧ Below w.heap.size w wr)) (fun i _ => (12 - intOf i).toNat)
    case atStart => exact ⟨0, by omega, by omega, by omega, rfl, Lib.hid ⟨HP2.out, HB2.out⟩⟩
    case round =>
      clear HP2 HB2
      obtain ⟨k, hk0, hk12, hkx, rfl, H⟩ := hrel
      obtain ⟨hpr, hbr⟩ := H.out
      have HPR := Lib.hid hpr
      have HBR := Lib.hid hbr
      clear hpr hbr H
      by_cases hlt : k < (xs.length : Int)
      · obtain ⟨ad, A', c', rfl, d0, d1, d2, d3, hl', hC'⟩ := at_op (Kd.C_below HR1.out HBR.out) k hk0 hlt
        have hmm := HWF.out _ (rdP_mem hk0 hlt)
        obtain ⟨⟨q, n, m, ys⟩, hx⟩ : ∃ x, rdP xs k = x := ⟨_, rfl⟩
        rw [hx] at d0 d1 d2 d3 hmm
        simp only at d0 d1 d2 d3 hmm
        have HMM := Lib.hid hmm
        clear hx hmm hl' hC'
        by_cases h11 : 11 < k
        · have f2 : decide (11 < k) = true := decide_eq_true h11
          have HBX := Lib.hid (below_alloc HBR.out (.cells #[.int .i64 q, .int .u64 n, .int .i64 m, .slice A' ys.length c'] 40))
          go_wp2_with fail
          refine (awake_calls _).mono ?_
          rintro e w9 ⟨rfl, hb9⟩
          have HB9 := Lib.hid (HBX.out.trans (Below.mono hb9 HBX.out.size))
          clear hb9
          go_wp2
          go_ret
          exact ⟨rfl, HB9.out⟩
        · have f2 : decide (11 < k) = false := decide_eq_false h11
          have HBX := Lib.hid (below_alloc HBR.out (.cells #[.int .i64 q, .int .u64 n, .int .i64 m, .slice A' ys.length c'] 40))
          have HP0 := Lib.hid (HPR.out.alloc (.cells #[.int .i64 q, .int .u64 n, .int .i64 m, .slice A' ys.length c'] 40))
          have hbox : (wr.alloc (.cells #[.int .i64 q, .int .u64 n, .int .i64 m, .slice A' ys.length c'] 40)).heap[wr.heap.size]? = some (.cells #[.int .i64 q, .int .u64 n, .int .i64 m, .slice A' ys.length c'] 40 (0, 0)) := by simpa using heap_alloc_new wr _
          have HNE : Hid (wr.heap.size ≠ g) := Lib.hid (by have := HPR.out.lt; omega)
          have HX0 := Lib.hid hbox
          clear hbox HPR HBR
          go_wp2_with fail
          have hh := cnumr_calls (p := 0) HP0.out HBY.out (Nat.zero_le _) (by have := HS.out; omega) m
          rw [numR_two] at hh
          refine hh.mono ?_
          rintro e w1 ⟨rfl, hp, hk⟩
          have HP1 := Lib.hid hp
          have HX1 := Lib.hid (hk.blk HX0.out HNE.out)
          have HBX1 := Lib.hid (HBX.out.trans hk.1)
          have hbx := hk.blk HX0.out HNE.out
          have p1 : w1.cell? ⟨wr.heap.size, 1, none⟩ = some (.int .u64 n) := (blk_cell hbx 1).trans rfl
          have p2 : w1.cell? ⟨wr.heap.size, 2, none⟩ = some (.int .i64 m) := (blk_cell hbx 2).trans rfl
          clear hh hp hk hbx
          go_wp2_with fail
          clear p1 p2
          have hh := cvarr_calls (p := 0) HP1.out HBY.out (Nat.zero_le _) (by have := HS.out; omega) n
          rw [varR_two] at hh
          refine hh.mono ?_
          rintro e w2 ⟨rfl, hp, hk⟩
          have HP2 := Lib.hid hp
          have HX2 := Lib.hid (hk.blk HX1.out HNE.out)
          have HBX2 := Lib.hid (HBX1.out.trans hk.1)
          have hbx := hk.blk HX1.out HNE.out
          have p1 : w2.cell? ⟨wr.heap.size, 1, none⟩ = some (.int .u64 n) := (blk_cell hbx 1).trans rfl
          have p2 : w2.cell? ⟨wr.heap.size, 2, none⟩ = some (.int .i64 m) := (blk_cell hbx 2).trans rfl
          clear hh hp hk hbx
          go_wp2_with fail
          clear p1 p2
          have hh := ctake_calls (p := 0) HP2.out (Nat.zero_le _) (by have := HS.out; omega) m HMM.out
          rw [takeR_two] at hh
          refine hh.mono ?_
          rintro e w3 ⟨v3, rfl, hv, hp, hk⟩
          obtain ⟨A3_, c3_, rfl, _, _⟩ := Kd.R_reads hv
          clear hv
          have HP3 := Lib.hid hp
          have HX3 := Lib.hid (hk.blk HX2.out HNE.out)
          have HBX3 := Lib.hid (HBX2.out.trans hk.1)
          have hbx := hk.blk HX2.out HNE.out
          have p1 : w3.cell? ⟨wr.heap.size, 1, none⟩ = some (.int .u64 n) := (blk_cell hbx 1).trans rfl
          have p2 : w3.cell? ⟨wr.heap.size, 2, none⟩ = some (.int .i64 m) := (blk_cell hbx 2).trans rfl
          clear hh hp hk hbx
          go_wp2_with fail
          clear p1 p2
          have hh := ctextr_calls (p := 0) HP3.out HBY.out (Nat.zero_le _) (by have := HS.out; omega) m HMM.out
          rw [textR_two] at hh
          refine hh.mono ?_
          rintro e w4 ⟨v4, rfl, hv, hp, hk⟩
          obtain ⟨A4_, c4_, rfl, _, _⟩ := Kd.R_reads hv
          clear hv
          have HP4 := Lib.hid hp
          have HX4 := Lib.hid (hk.blk HX3.out HNE.out)
          have HBX4 := Lib.hid (HBX3.out.trans hk.1)
          have hbx := hk.blk HX3.out HNE.out
          have p1 : w4.cell? ⟨wr.heap.size, 1, none⟩ = some (.int .u64 n) := (blk_cell hbx 1).trans rfl
          have p2 : w4.cell? ⟨wr.heap.size, 2, none⟩ = some (.int .i64 m) := (blk_cell hbx 2).trans rfl
          clear hh hp hk hbx
          go_wp2_with fail
          clear p1 p2
          refine (cleft_calls HP4.out (by omega) (by omega) (by have := HS.out; omega)).mono ?_
          rintro e w5 ⟨rfl, nd, hn⟩
          have HP5 := Lib.hid (show IsR w5 w.heap.size g bs ((0 : Nat) : Int) 2 by rw [hn]; exact HP4.out.drewN nd)
          have HBX5 := Lib.hid (show Below w.heap.size w w5 by rw [hn]; exact pw_below_drewN HBX4.out nd)
          rw [e0.out]
          clear hn
          go_wp2_with fail
          refine (cerr_calls HP5.out).mono ?_
          rintro e w6 ⟨rfl, rfl⟩
          go_wp2_with fail
          have hh := cend_calls (p := 0) HP5.out (Nat.zero_le _) (by have := HS.out; omega)
          rw [endR_two] at hh
          refine hh.mono ?_
          rintro e w6 ⟨rfl, hp, hk⟩
          have HP6 := Lib.hid hp
          have HBX6 := Lib.hid (HBX5.out.trans hk.1)
          clear hh hp hk
          go_wp2
          go_roundw
          case rel => exact ⟨k + 1, by omega, by omega, by omega, rfl, Lib.hid ⟨HP6.out, HBX6.out⟩⟩
          case measure => simp [intOf]; omega
      · go_wp2_with fail
        refine (awake_calls _).mono ?_
        rintro e w9 ⟨rfl, hb9⟩
        have HB9 := Lib.hid (HBR.out.trans (Below.mono hb9 HBR.out.size))
        clear hb9
        go_wp2
        go_ret
        exact ⟨rfl, HB9.out⟩
end Go.Proofs.Ytigmkbkmfhlimaa.Hand
