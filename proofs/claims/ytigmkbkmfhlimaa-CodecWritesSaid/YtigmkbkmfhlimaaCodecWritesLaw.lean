/- CodecWrites: walked. -/
import Derived.Test.YtigmkbkmfhlimaaProg
import Derived.Below
import Derived.Deep.Draws
import Derived.Deep.AppendLies
import Derived.Maps.AppendAt
import Derived.OwnWalk
import Derived.Laws.BytesArg
import Derived.Laws.MakeOwn
import Derived.Laws.OwnMore
import Derived.Deep.OwnRows
import Derived.Tactics
import Derived.Lib.ConvBytes
import Derived.Laws.Slices
import Derived.WalkKit
import Derived.KernelRfl
import Derived.RowKit3
import Derived.Deep.LoopGhost
import Derived.Deep.QuietTactic
import Derived.BigQuiet
import Derived.WideLaws
import Derived.Deep.DeepCutAuto
import Derived.Deep.CutBlock
import Derived.Deep.RegionHeld3
import Derived.Laws.Rows
import Derived.Lib.AppendStr
import Derived.ArgAppend
import Derived.Laws.IdiomCopy
import Derived.OrdersHeld
import Derived.Laws.BitsLemmas
import Derived.RowKit
import Derived.StillTailTactics
import Derived.Test.YtigmkbkmfhlimaaWWords
import Derived.Test.YtigmkbkmfhlimaaWLast
import Derived.Test.YtigmkbkmfhlimaaWMore
import Derived.Lib.Hide
import Derived.LaidEql
import Derived.Outline
import Derived.Deep.RegionLaw
import Derived.Deep.RegionHeld3
import Derived.BigRegion
import Derived.Test.YtigmkbkmfhlimaaAwake
import Derived.Test.YtigmkbkmfhlimaaWriter
import Derived.Test.YtigmkbkmfhlimaaReader2
import Derived.Test.YtigmkbkmfhlimaaOpens
import Derived.Test.YtigmkbkmfhlimaaRefPlain
import Derived.Test.YtigmkbkmfhlimaaRef
namespace Go.Proofs.Ytigmkbkmfhlimaa.Hand
open Go Go.RowKit Go.Proofs.Ytigmkbkmfhlimaa.Plain Go.Proofs.Ytigmkbkmfhlimaa.PAll Go.Proofs.YtigmkbkmfhlimaaW.PrintWords Go.Proofs.YtigmkbkmfhlimaaW.PrintLast Go.Proofs.YtigmkbkmfhlimaaW.PrintMore
attribute [local go_sem] max2_int min2_int max_two min_two max_three min_three max_four min_four
set_option linter.unusedVariables false
set_option linter.unusedSimpArgs false
/-- A part: (Kind, N, M, B). -/
abbrev Part := Int × Int × Int × List Int
def kOp : Kd Part := Kd.pair (Kd.int .i64) (Kd.pair (Kd.int .u64) (Kd.pair (Kd.int .i64) (Kd.slice 5 (Kd.int .u8))))
def zOp : Part := (0, 0, 0, [])
def rdP (xs : List Part) (i : Int) : Part := xs.getD i.toNat zOp
theorem kOp_open {w : World} {x : Part} {cs : List Value} (h : kOp.K w x cs) : ∃ A c, cs = [.int .i64 x.1, .int .u64 x.2.1, .int .i64 x.2.2.1, .slice A x.2.2.2.length c] ∧ x.2.2.2.length ≤ c ∧ Kd.C (Kd.int .u8) w A x.2.2.2.length x.2.2.2 := by
  obtain ⟨_, _, rfl, rfl, ⟨_, _, rfl, rfl, ⟨_, _, rfl, rfl, ⟨A, c, rfl, hl, hC⟩⟩⟩⟩ := h
  exact ⟨A, c, rfl, hl, hC⟩
theorem at_op {w : World} {A : Option Addr} {n : Nat} {xs : List Part} (h : Kd.C kOp w A n xs) (i : Int) (h0 : 0 ≤ i) (h1 : i < n) : ∃ ad A' c', A = some ad ∧ w.cell? (ad.add (i.toNat * 4)) = some (.int .i64 (rdP xs i).1) ∧ w.cell? ⟨(ad.add (i.toNat * 4)).block, (ad.add (i.toNat * 4)).off + 1, none⟩ = some (.int .u64 (rdP xs i).2.1) ∧ w.cell? ⟨(ad.add (i.toNat * 4)).block, (ad.add (i.toNat * 4)).off + 2, none⟩ = some (.int .i64 (rdP xs i).2.2.1) ∧ w.cell? ⟨(ad.add (i.toNat * 4)).block, (ad.add (i.toNat * 4)).off + 3, none⟩ = some (.slice A' (rdP xs i).2.2.2.length c') ∧ (rdP xs i).2.2.2.length ≤ c' ∧ Kd.C (Kd.int .u8) w A' (rdP xs i).2.2.2.length (rdP xs i).2.2.2 := by
  obtain ⟨ad, c, e, _, hK, hc0⟩ := Kd.C_get h zOp i h0 h1
  have hc : ∀ j u, c[j]? = some u → w.cell? (ad.add (i.toNat * 4 + j)) = some u := hc0
  obtain ⟨A', c', rfl, hl, hC⟩ := kOp_open hK
  exact ⟨ad, A', c', e, hc 0 _ rfl, by rw [← add_field _ _ 1 (by omega)]; exact hc 1 _ rfl, by rw [← add_field _ _ 2 (by omega)]; exact hc 2 _ rfl, by rw [← add_field _ _ 3 (by omega)]; exact hc 3 _ rfl, hl, hC⟩
theorem rdP_mem {xs : List Part} {i : Int} (h0 : 0 ≤ i) (h1 : i < (xs.length : Int)) : rdP xs i ∈ xs := by
  unfold rdP
  rw [List.getD_eq_getElem?_getD, List.getElem?_eq_getElem (by omega)]
  exact List.getElem_mem _
theorem RKeep.blk {w w1 : World} {B g k : Nat} {o : Obj} (h : RKeep w w1 B g) (hb : w.heap[k]? = some o) (hne : k ≠ g) : w1.heap[k]? = some o := (h.2.2 k (blk_lt hb) hne (by simp)).trans hb
set_option maxHeartbeats 8000000 in
set_option maxRecDepth 100000 in
theorem writes_calls (A1 : Option Addr) (c1 : Nat) (xs : List Part) (w : World) (hr1 : Kd.C kOp w A1 xs.length xs) (hm : xs.length ≤ 9223372036854775807) (hwf : ∀ x ∈ xs, 0 ≤ x.2.1 ∧ x.2.1 < 18446744073709551616) :
    Calls Try.prog 4 #[.slice A1 xs.length c1] w fun e w' => e = .returned (.bool true) ∧ Below w.heap.size w w' := by
  have HR1 := Lib.hid hr1
  have HWF := Lib.hid hwf
  clear hr1 hwf
  go_enter Try.func4, Try.ntmps4
  go_wp2_with fail
  refine (cnew_calls _).mono ?_
  rintro e w1 ⟨rfl, hw, hb⟩
  have HW1 := Lib.hid hw
  have HB1 := Lib.hid hb
  clear hw hb
  go_wp2_with fail
  go_loopw [4, 12] (fun v i wr => ∃ (k : Int), 0 ≤ k ∧ k ≤ 30 ∧ k ≤ (xs.length : Int) ∧ i = .int .i64 k ∧ ∃ s, v = .string s ∧ Hid (∃ bs, s = strOfNums bs ∧ bs.length ≤ 700 * k.toNat ∧ IsC wr w.heap.size w.heap.size bs ∧ Below w.heap.size w wr)) (fun _ i _ => (30 - intOf i).toNat)
  case atStart => exact ⟨0, by omega, by omega, by omega, rfl, _, rfl, Lib.hid ⟨[], rfl, by simp, HW1.out, HB1.out⟩⟩
  case round =>
    clear HW1 HB1
    obtain ⟨k, hk0, hk30, hkx, rfl, s, rfl, H⟩ := hrel
    obtain ⟨bs, hs, hl, hw, hb⟩ := H.out
    have HS := Lib.hid hs
    have HLN := Lib.hid hl
    have HW := Lib.hid hw
    have HB := Lib.hid hb
    have hsz : s.size = bs.length := by rw [hs, strOfNums_size]
    have HSZ := Lib.hid hsz
    clear hs hl hw hb H hsz
    by_cases hlt : k < (xs.length : Int)
    · obtain ⟨ad, A', c', rfl, d0, d1, d2, d3, hl', hC'⟩ := at_op HR1.out k hk0 hlt
      have hmm := HWF.out _ (rdP_mem hk0 hlt)
      obtain ⟨⟨q, n0, m, ys⟩, hx⟩ : ∃ x, rdP xs k = x := ⟨_, rfl⟩
      rw [hx] at d0 d1 d2 d3 hmm hl' hC'
      simp only at d0 d1 d2 d3 hmm hl' hC'
      replace d0 := pw_cell_below HB.out d0
      replace d1 := pw_cell_below HB.out d1
      replace d2 := pw_cell_below HB.out d2
      replace d3 := pw_cell_below HB.out d3
      have HCY := Lib.hid hC'
      obtain ⟨n, rfl⟩ := Int.eq_ofNat_of_zero_le hmm.1
      have HN := Lib.hid (show n < 18446744073709551616 by omega)
      have HCC := Lib.hid hl'
      clear hx hmm hl' hC'
      have HW0 := Lib.hid (HW.out.alloc (.cells #[.int .i64 q, .int .u64 (n : Int), .int .i64 m, .slice A' ys.length c'] 40))
      have HB0 := Lib.hid (HB.out.trans (Below.mono (below_alloc (Below.refl wr.heap.size wr) (.cells #[.int .i64 q, .int .u64 (n : Int), .int .i64 m, .slice A' ys.length c'] 40)) (by have := HW.out.lt; omega)))
      have hbox : (wr.alloc (.cells #[.int .i64 q, .int .u64 (n : Int), .int .i64 m, .slice A' ys.length c'] 40)).heap[wr.heap.size]? = some (.cells #[.int .i64 q, .int .u64 (n : Int), .int .i64 m, .slice A' ys.length c'] 40 (0, 0)) := by simpa using heap_alloc_new wr _
      have HNE : Hid (wr.heap.size ≠ w.heap.size) := Lib.hid (by have := HW.out.lt; omega)
      have HGL := Lib.hid HW.out.lt
      have HX0 := Lib.hid hbox
      clear hbox HW HB
      by_cases h29 : 29 < k
      · have f1 : decide (29 < k) = true := decide_eq_true h29
        go_wp2_with fail
        refine (cbytes_calls HW0.out (by have := HLN.out; omega)).mono ?_
        rintro e w7 ⟨v7, rfl, hv7, hb7⟩
        have hcv := own_string (P := Try.prog) Try.underlying22 Try.underlying5 Try.underlying9 (Kd.own_of_R hv7)
        rw [← HS.out] at hcv
        have HB7 := Lib.hid (HB0.out.trans (Below.mono hb7 (by have := HW0.out.lt; omega)))
        have HLE := Lib.hid (show w.heap.size ≤ w7.heap.size by have := hb7.size; have := HW0.out.lt; omega)
        clear hb7 hv7
        go_wp2_with fail
        refine (awake_calls _).mono ?_
        rintro e w9 ⟨rfl, hb9⟩
        have HB9 := Lib.hid (HB7.out.trans (Below.mono hb9 HLE.out))
        clear hb9
        go_wp2
        go_ret
        exact ⟨rfl, HB9.out⟩
      · have f1 : decide (29 < k) = false := decide_eq_false h29
        by_cases h300 : 300 < ys.length
        · have f2 : decide (300 < (ys.length : Int)) = true := decide_eq_true (by omega)
          clear h300
          go_wp2_with fail
          refine (cbytes_calls HW0.out (by have := HLN.out; omega)).mono ?_
          rintro e w7 ⟨v7, rfl, hv7, hb7⟩
          have hcv := own_string (P := Try.prog) Try.underlying22 Try.underlying5 Try.underlying9 (Kd.own_of_R hv7)
          rw [← HS.out] at hcv
          have HB7 := Lib.hid (HB0.out.trans (Below.mono hb7 (by have := HW0.out.lt; omega)))
          have HLE := Lib.hid (show w.heap.size ≤ w7.heap.size by have := hb7.size; have := HW0.out.lt; omega)
          clear hb7 hv7
          go_wp2_with fail
          refine (awake_calls _).mono ?_
          rintro e w9 ⟨rfl, hb9⟩
          have HB9 := Lib.hid (HB7.out.trans (Below.mono hb9 HLE.out))
          clear hb9
          go_wp2
          go_ret
          exact ⟨rfl, HB9.out⟩
        · have f2 : decide (300 < (ys.length : Int)) = false := decide_eq_false (by omega)
          have HYL := Lib.hid (show ys.length ≤ 300 by omega)
          have hk29 : k ≤ 29 := by omega
          clear h300 h29
          obtain ⟨r, hr⟩ : ∃ r : Int, Go.bits .and .i64 q 3 = r := ⟨_, rfl⟩
          by_cases hr0 : r = 0
          · have b0 : (r == 0) = true := beq_iff_eq.2 hr0
            clear hr0
            obtain ⟨T, hT⟩ : ∃ T, strOfNums (digs (wid m) n) = T := ⟨_, rfl⟩
            have hT2 := rnum_tells n m HN.out 20 (by omega)
            rw [hT] at hT2
            have HT := Lib.hid hT
            have HT2 := Lib.hid hT2
            have hTz : T.size ≤ 700 := by rw [← hT, strOfNums_size]; exact (by rw [digs_length]; have := wid_le m; omega)
            have f3 : (9223372036854775807 < s.size + T.size) = False := eq_false (by have := HSZ.out; have := HLN.out; omega)
            clear hT hT2 hTz
            go_wp2_with fail
            refine (cnum_calls n m HW0.out (by have := HLN.out; omega)).mono ?_
            rintro e w2 ⟨rfl, hw, hb, hk⟩
            have hbx := hk.blk HNE.out (HW0.out.row HX0.out (by decide)) HX0.out
            have p0 : w2.cell? ⟨wr.heap.size, 0, none⟩ = some (.int .i64 q) := (blk_cell hbx 0).trans rfl
            have p1 : w2.cell? ⟨wr.heap.size, 1, none⟩ = some (.int .u64 (n : Int)) := (blk_cell hbx 1).trans rfl
            have p2 : w2.cell? ⟨wr.heap.size, 2, none⟩ = some (.int .i64 m) := (blk_cell hbx 2).trans rfl
            have p3 : w2.cell? ⟨wr.heap.size, 3, none⟩ = some (.slice A' ys.length c') := (blk_cell hbx 3).trans rfl
            obtain ⟨bs2, hbs2⟩ : ∃ l, bs ++ digs (wid m) n = l := ⟨_, rfl⟩
            rw [hbs2] at hw
            obtain ⟨S, hS⟩ : ∃ S, s ++ T = S := ⟨_, rfl⟩
            have hS2 : S = strOfNums bs2 := by rw [← hS, ← hbs2, str_append, ← HS.out, HT.out]
            have hL2 : bs2.length ≤ 700 * (k + 1).toNat := by
              have h1 := HLN.out
              have h2 : (digs (wid m) n).length ≤ 700 := by rw [digs_length]; have := wid_le m; omega
              have h3 : (k + 1).toNat = k.toNat + 1 := by omega
              rw [← hbs2, List.length_append, h3]
              omega
            have hcmp : ((bs2.length : Int) != (S.size : Int)) = false := by rw [hS2, strOfNums_size]; simp
            have HS2 := Lib.hid hS2
            have HLN2 := Lib.hid hL2
            have HSS := Lib.hid hS
            have HW2 := Lib.hid hw
            have HB2 := Lib.hid (HB0.out.trans hb)
            clear hbs2 hS hS2 hL2 hw hb hk hbx
            go_wp2_with fail
            refine (mastheadref06_Num.calls 20 (n : Int) m T _ HT2.out).mono ?_
            rintro e w3 ⟨rfl, hb3⟩
            have HW3 := Lib.hid (HW2.out.below hb3)
            have HB3 := Lib.hid (HB2.out.trans (Below.mono hb3 (by have := HW2.out.lt; omega)))
            clear hb3 p0 p1 p2 p3
            go_wp2_with fail
            rw [HSS.out]
            refine (clen_calls HW3.out).mono ?_
            rintro e w5 ⟨rfl, rfl⟩
            go_wp2
            go_roundw
            case rel => exact ⟨k + 1, by omega, by omega, by omega, rfl, _, rfl, Lib.hid ⟨_, HS2.out, HLN2.out, HW3.out, HB3.out⟩⟩
            case measure => simp [intOf]; omega
          · have b0 : (r == 0) = false := beq_eq_false_iff_ne.2 hr0
            by_cases hr1 : r = 1
            · have b1 : (r == 1) = true := beq_iff_eq.2 hr1
              clear hr0 hr1
              obtain ⟨T, hT⟩ : ∃ T, strOfNums (varB n) = T := ⟨_, rfl⟩
              have hT2 := rvar_tells n HN.out 20 (by omega)
              rw [hT] at hT2
              have HT := Lib.hid hT
              have HT2 := Lib.hid hT2
              have hTz : T.size ≤ 700 := by rw [← hT, strOfNums_size]; exact (by have := varB_length n; omega)
              have f3 : (9223372036854775807 < s.size + T.size) = False := eq_false (by have := HSZ.out; have := HLN.out; omega)
              clear hT hT2 hTz
              go_wp2_with fail
              refine (cvar_calls n HW0.out (by have := HLN.out; omega)).mono ?_
              rintro e w2 ⟨rfl, hw, hb, hk⟩
              have hbx := hk.blk HNE.out (HW0.out.row HX0.out (by decide)) HX0.out
              have p0 : w2.cell? ⟨wr.heap.size, 0, none⟩ = some (.int .i64 q) := (blk_cell hbx 0).trans rfl
              have p1 : w2.cell? ⟨wr.heap.size, 1, none⟩ = some (.int .u64 (n : Int)) := (blk_cell hbx 1).trans rfl
              have p2 : w2.cell? ⟨wr.heap.size, 2, none⟩ = some (.int .i64 m) := (blk_cell hbx 2).trans rfl
              have p3 : w2.cell? ⟨wr.heap.size, 3, none⟩ = some (.slice A' ys.length c') := (blk_cell hbx 3).trans rfl
              obtain ⟨bs2, hbs2⟩ : ∃ l, bs ++ varB n = l := ⟨_, rfl⟩
              rw [hbs2] at hw
              obtain ⟨S, hS⟩ : ∃ S, s ++ T = S := ⟨_, rfl⟩
              have hS2 : S = strOfNums bs2 := by rw [← hS, ← hbs2, str_append, ← HS.out, HT.out]
              have hL2 : bs2.length ≤ 700 * (k + 1).toNat := by
                have h1 := HLN.out
                have h2 : (varB n).length ≤ 700 := by have := varB_length n; omega
                have h3 : (k + 1).toNat = k.toNat + 1 := by omega
                rw [← hbs2, List.length_append, h3]
                omega
              have hcmp : ((bs2.length : Int) != (S.size : Int)) = false := by rw [hS2, strOfNums_size]; simp
              have HS2 := Lib.hid hS2
              have HLN2 := Lib.hid hL2
              have HSS := Lib.hid hS
              have HW2 := Lib.hid hw
              have HB2 := Lib.hid (HB0.out.trans hb)
              clear hbs2 hS hS2 hL2 hw hb hk hbx
              go_wp2_with fail
              refine (mastheadref06_Var.calls 20 (n : Int) T _ HT2.out).mono ?_
              rintro e w3 ⟨rfl, hb3⟩
              have HW3 := Lib.hid (HW2.out.below hb3)
              have HB3 := Lib.hid (HB2.out.trans (Below.mono hb3 (by have := HW2.out.lt; omega)))
              clear hb3 p0 p1 p2 p3
              go_wp2_with fail
              rw [HSS.out]
              refine (clen_calls HW3.out).mono ?_
              rintro e w5 ⟨rfl, rfl⟩
              go_wp2
              go_roundw
              case rel => exact ⟨k + 1, by omega, by omega, by omega, rfl, _, rfl, Lib.hid ⟨_, HS2.out, HLN2.out, HW3.out, HB3.out⟩⟩
              case measure => simp [intOf]; omega
            · have b1 : (r == 1) = false := beq_eq_false_iff_ne.2 hr1
              by_cases hr2 : r = 2
              · have b2 : (r == 2) = true := beq_iff_eq.2 hr2
                clear hr0 hr1 hr2
                obtain ⟨T, hT⟩ : ∃ T, strOfNums ys = T := ⟨_, rfl⟩
                have HT := Lib.hid hT
                have hTz : T.size ≤ 300 := by rw [← hT, strOfNums_size]; exact HYL.out
                have f3 : (9223372036854775807 < T.size + T.size) = False := eq_false (by omega)
                have f4 : (9223372036854775807 < s.size + (T ++ T).size) = False := eq_false (by have := HSZ.out; have := HLN.out; rw [ByteArray.size_append]; omega)
                have f5 : (9223372036854775807 < s.size + (T.size + T.size)) = False := eq_false (by have := HSZ.out; have := HLN.out; omega)
                clear hT hTz
                go_wp2_with fail
                have hX1 : ((wr.alloc (.cells #[.int .i64 q, .int .u64 (n : Int), .int .i64 m, .slice A' ys.length c'] 40)).alloc (.cells #[.slice A' ys.length c', .slice none 0 0, .slice A' ys.length c'] 22)).heap[wr.heap.size]? = some (.cells #[.int .i64 q, .int .u64 (n : Int), .int .i64 m, .slice A' ys.length c'] 40 (0, 0)) := (heap_alloc_old _ _ (by simp)).trans HX0.out
                have hL3 : ((wr.alloc (.cells #[.int .i64 q, .int .u64 (n : Int), .int .i64 m, .slice A' ys.length c'] 40)).alloc (.cells #[.slice A' ys.length c', .slice none 0 0, .slice A' ys.length c'] 22)).heap[wr.heap.size + 1]? = some (.cells #[.slice A' ys.length c', .slice none 0 0, .slice A' ys.length c'] 22 (0, 0)) := by simpa using heap_alloc_new (wr.alloc (.cells #[.int .i64 q, .int .u64 (n : Int), .int .i64 m, .slice A' ys.length c'] 40)) (.cells #[.slice A' ys.length c', .slice none 0 0, .slice A' ys.length c'] 22)
                have HX1 := Lib.hid hX1
                have HL3 := Lib.hid hL3
                have HAL := Lib.hid (below_alloc (Below.refl (wr.alloc (.cells #[.int .i64 q, .int .u64 (n : Int), .int .i64 m, .slice A' ys.length c'] 40)).heap.size (wr.alloc (.cells #[.int .i64 q, .int .u64 (n : Int), .int .i64 m, .slice A' ys.length c'] 40))) (.cells #[.slice A' ys.length c', .slice none 0 0, .slice A' ys.length c'] 22))
                have HW1 := Lib.hid (HW0.out.alloc (.cells #[.slice A' ys.length c', .slice none 0 0, .slice A' ys.length c'] 22))
                have HB1 := Lib.hid (HB0.out.trans (Below.mono HAL.out (by have := HW0.out.lt; omega)))
                clear hX1 hL3
                refine (cput_calls (some ⟨wr.heap.size + 1, 0, none⟩) 3 [ys, [], ys] HW1.out (fun W' hb hk => ?_) (by simp) (by have := HLN.out; have := HYL.out; simp; omega)).mono ?_
                · have hCW := Kd.C_below HCY.out (HB1.out.trans hb)
                  exact C_row3 (hk.blk (by have := HGL.out; omega) (HW1.out.row HL3.out (by decide)) HL3.out) HCC.out hCW (by simp) (Kd.C_nil _ _) HCC.out hCW
                rintro e w2 ⟨rfl, hw, hb, hk⟩
                have hw : IsC w2 w.heap.size w.heap.size (bs ++ (ys ++ ys)) := by simpa using hw
                have hbx := hk.blk HNE.out (HW1.out.row HX1.out (by decide)) HX1.out
                have p0 : w2.cell? ⟨wr.heap.size, 0, none⟩ = some (.int .i64 q) := (blk_cell hbx 0).trans rfl
                have p1 : w2.cell? ⟨wr.heap.size, 1, none⟩ = some (.int .u64 (n : Int)) := (blk_cell hbx 1).trans rfl
                have p2 : w2.cell? ⟨wr.heap.size, 2, none⟩ = some (.int .i64 m) := (blk_cell hbx 2).trans rfl
                have p3 : w2.cell? ⟨wr.heap.size, 3, none⟩ = some (.slice A' ys.length c') := (blk_cell hbx 3).trans rfl
                have hb : Below w.heap.size (wr.alloc (.cells #[.int .i64 q, .int .u64 (n : Int), .int .i64 m, .slice A' ys.length c'] 40)) w2 := (Below.mono HAL.out (by have := HW0.out.lt; omega)).trans hb
                have hcv := Kd.C_string (P := Try.prog) (c := c') Try.underlying22 Try.underlying5 Try.underlying9 (Kd.C_below HCY.out (HB0.out.trans hb))
                rw [HT.out] at hcv
                obtain ⟨bs2, hbs2⟩ : ∃ l, bs ++ (ys ++ ys) = l := ⟨_, rfl⟩
                rw [hbs2] at hw
                obtain ⟨S, hS⟩ : ∃ S, s ++ (T ++ T) = S := ⟨_, rfl⟩
                have hS2 : S = strOfNums bs2 := by rw [← hS, ← hbs2, str_append, str_append, ← HS.out, HT.out]
                have hL2 : bs2.length ≤ 700 * (k + 1).toNat := by
                  have h1 := HLN.out
                  have h2 := HYL.out
                  have h3 : (k + 1).toNat = k.toNat + 1 := by omega
                  rw [← hbs2, List.length_append, List.length_append, h3]
                  omega
                have hcmp : ((bs2.length : Int) != (S.size : Int)) = false := by rw [hS2, strOfNums_size]; simp
                have HS2 := Lib.hid hS2
                have HLN2 := Lib.hid hL2
                have HSS := Lib.hid hS
                have HW2 := Lib.hid hw
                have HB2 := Lib.hid (HB0.out.trans hb)
                clear hbs2 hS hS2 hL2 hw hb hk hbx
                go_wp2_with fail
                rw [HSS.out]
                refine (clen_calls HW2.out).mono ?_
                rintro e w5 ⟨rfl, rfl⟩
                go_wp2
                go_roundw
                case rel => exact ⟨k + 1, by omega, by omega, by omega, rfl, _, rfl, Lib.hid ⟨_, HS2.out, HLN2.out, HW2.out, HB2.out⟩⟩
                case measure => simp [intOf]; omega
              · have b2 : (r == 2) = false := beq_eq_false_iff_ne.2 hr2
                by_cases hr3 : r = 3
                · have b3 : (r == 3) = true := beq_iff_eq.2 hr3
                  clear hr0 hr1 hr2 hr3
                  obtain ⟨T, hT⟩ : ∃ T, strOfNums ys = T := ⟨_, rfl⟩
                  have HT := Lib.hid hT
                  have hTs : T.size = ys.length := by rw [← hT, strOfNums_size]
                  obtain ⟨U, hU⟩ : ∃ U, strOfNums (varB T.size) ++ T = U := ⟨_, rfl⟩
                  have hU2 : strOfNums (varB ys.length ++ ys) = U := by rw [← hU, str_append, hTs, hT]
                  have hUz : U.size ≤ 700 := by rw [← hU2, strOfNums_size, List.length_append]; have := varB_length ys.length; have := HYL.out; omega
                  have HU := Lib.hid hU
                  have HU2 := Lib.hid hU2
                  have HTS := Lib.hid (show T.size ≤ 1000000 by have := HYL.out; omega)
                  have f3 : (9223372036854775807 < s.size + U.size) = False := eq_false (by have := HSZ.out; have := HLN.out; omega)
                  clear hT hTs hU hU2 hUz
                  go_wp2_with fail
                  refine (ctext_calls A' c' ys HW0.out (fun W' hb hk => Kd.C_below HCY.out (HB0.out.trans hb)) HCC.out (by have := HLN.out; have := HYL.out; omega)).mono ?_
                  rintro e w2 ⟨rfl, hw, hb, hk⟩
                  have hbx := hk.blk HNE.out (HW0.out.row HX0.out (by decide)) HX0.out
                  have p0 : w2.cell? ⟨wr.heap.size, 0, none⟩ = some (.int .i64 q) := (blk_cell hbx 0).trans rfl
                  have p1 : w2.cell? ⟨wr.heap.size, 1, none⟩ = some (.int .u64 (n : Int)) := (blk_cell hbx 1).trans rfl
                  have p2 : w2.cell? ⟨wr.heap.size, 2, none⟩ = some (.int .i64 m) := (blk_cell hbx 2).trans rfl
                  have p3 : w2.cell? ⟨wr.heap.size, 3, none⟩ = some (.slice A' ys.length c') := (blk_cell hbx 3).trans rfl
                  have hcv := Kd.C_string (P := Try.prog) (c := c') Try.underlying22 Try.underlying5 Try.underlying9 (Kd.C_below HCY.out (HB0.out.trans hb))
                  rw [HT.out] at hcv
                  obtain ⟨bs2, hbs2⟩ : ∃ l, bs ++ (varB ys.length ++ ys) = l := ⟨_, rfl⟩
                  rw [hbs2] at hw
                  obtain ⟨S, hS⟩ : ∃ S, s ++ U = S := ⟨_, rfl⟩
                  have hS2 : S = strOfNums bs2 := by rw [← hS, ← hbs2, str_append, ← HS.out, HU2.out]
                  have hL2 : bs2.length ≤ 700 * (k + 1).toNat := by
                    have h1 := HLN.out
                    have h2 := HYL.out
                    have h4 := varB_length ys.length
                    have h3 : (k + 1).toNat = k.toNat + 1 := by omega
                    rw [← hbs2, List.length_append, List.length_append, h3]
                    omega
                  have hcmp : ((bs2.length : Int) != (S.size : Int)) = false := by rw [hS2, strOfNums_size]; simp
                  have HS2 := Lib.hid hS2
                  have HLN2 := Lib.hid hL2
                  have HSS := Lib.hid hS
                  have HW2 := Lib.hid hw
                  have HB2 := Lib.hid (HB0.out.trans hb)
                  clear hbs2 hS hS2 hL2 hw hb hk hbx
                  go_wp2_with fail
                  refine (rtext_calls T HTS.out _).mono ?_
                  rw [HU.out]
                  rintro e w3 ⟨rfl, hb3⟩
                  have HW3 := Lib.hid (HW2.out.below hb3)
                  have HB3 := Lib.hid (HB2.out.trans (Below.mono hb3 (by have := HW2.out.lt; omega)))
                  clear hb3 p0 p1 p2 p3 hcv
                  go_wp2_with fail
                  rw [HSS.out]
                  refine (clen_calls HW3.out).mono ?_
                  rintro e w5 ⟨rfl, rfl⟩
                  go_wp2
                  go_roundw
                  case rel => exact ⟨k + 1, by omega, by omega, by omega, rfl, _, rfl, Lib.hid ⟨_, HS2.out, HLN2.out, HW3.out, HB3.out⟩⟩
                  case measure => simp [intOf]; omega
                · have b3 : (r == 3) = false := beq_eq_false_iff_ne.2 hr3
                  clear hr0 hr1 hr2 hr3
                  have hcmp : ((bs.length : Int) != (s.size : Int)) = false := by rw [HSZ.out]; simp
                  have HLN2 := Lib.hid (show bs.length ≤ 700 * (k + 1).toNat by have := HLN.out; omega)
                  go_wp2_with fail
                  refine (clen_calls HW0.out).mono ?_
                  rintro e w5 ⟨rfl, rfl⟩
                  go_wp2
                  go_roundw
                  case rel => exact ⟨k + 1, by omega, by omega, by omega, rfl, _, rfl, Lib.hid ⟨_, HS.out, HLN2.out, HW0.out, HB0.out⟩⟩
                  case measure => simp [intOf]; omega
    · have hend := 0
      go_wp2_with fail
      refine (cbytes_calls HW.out (by have := HLN.out; omega)).mono ?_
      rintro e w7 ⟨v7, rfl, hv7, hb7⟩
      have hcv := own_string (P := Try.prog) Try.underlying22 Try.underlying5 Try.underlying9 (Kd.own_of_R hv7)
      rw [← HS.out] at hcv
      have HB7 := Lib.hid (HB.out.trans (Below.mono hb7 (by have := HW.out.lt; omega)))
      have HLE := Lib.hid (show w.heap.size ≤ w7.heap.size by have := hb7.size; have := HW.out.lt; omega)
      clear hb7 hv7
      go_wp2_with fail
      refine (awake_calls _).mono ?_
      rintro e w9 ⟨rfl, hb9⟩
      have HB9 := Lib.hid (HB7.out.trans (Below.mono hb9 HLE.out))
      clear hb9
      go_wp2
      go_ret
      exact ⟨rfl, HB9.out⟩
end Go.Proofs.Ytigmkbkmfhlimaa.Hand
