/- CodecReads: walked. -/
import Derived.Test.YtigmkbkmfhlimaaProg
import Derived.Below
import Derived.Deep.Draws
import Derived.Deep.AppendLies
import Derived.Maps.AppendAt
import Derived.OwnWalk
import Derived.Laws.BytesArg
import Derived.Laws.MakeOwn
import Derived.Laws.OwnMore
import Derived.Deep.OwnRows
import Derived.Tactics
import Derived.Lib.ConvBytes
import Derived.Laws.Slices
import Derived.WalkKit
import Derived.KernelRfl
import Derived.RowKit3
import Derived.Deep.LoopGhost
import Derived.Deep.QuietTactic
import Derived.BigQuiet
import Derived.WideLaws
import Derived.Deep.DeepCutAuto
import Derived.Deep.CutBlock
import Derived.Deep.RegionHeld3
import Derived.Laws.Rows
import Derived.Lib.AppendStr
import Derived.ArgAppend
import Derived.Laws.IdiomCopy
import Derived.OrdersHeld
import Derived.Laws.BitsLemmas
import Derived.RowKit
import Derived.StillTailTactics
import Derived.Test.YtigmkbkmfhlimaaWWords
import Derived.Test.YtigmkbkmfhlimaaWLast
import Derived.Test.YtigmkbkmfhlimaaWMore
import Derived.Lib.Hide
import Derived.LaidEql
import Derived.Outline
import Derived.Deep.RegionLaw
import Derived.Deep.RegionHeld3
import Derived.BigRegion
import Derived.Test.YtigmkbkmfhlimaaAwake
import Derived.Test.YtigmkbkmfhlimaaWriter
import Derived.Test.YtigmkbkmfhlimaaReader2
import Derived.Test.YtigmkbkmfhlimaaOpens
import Derived.Deep.DrawnRows
import Derived.Test.YtigmkbkmfhlimaaReadsHash
namespace Go.Proofs.Ytigmkbkmfhlimaa.Hand
open Go Go.RowKit Go.Proofs.Ytigmkbkmfhlimaa.Plain Go.Proofs.Ytigmkbkmfhlimaa.PAll Go.Proofs.YtigmkbkmfhlimaaW.PrintWords Go.Proofs.YtigmkbkmfhlimaaW.PrintLast Go.Proofs.YtigmkbkmfhlimaaW.PrintMore
attribute [local go_sem] max2_int min2_int max_two min_two max_three min_three max_four min_four
set_option linter.unusedVariables false
set_option linter.unusedSimpArgs false
attribute [local go_sem ↓] Go.wp_at_zero Go.wp_at_succ
theorem reads_calls {w : World} {B g : Nat} {bs : List Int} {p : Nat} {x1 : Int} (h : IsR w B g bs (p : Int) x1) (hb : ∀ y ∈ bs, 0 ≤ y ∧ y < 256) (hp : p ≤ bs.length) (hl : bs.length ≤ 1000) (q n m : Int) (A' : Option Addr) (nn c' : Nat) (hm : m ≤ 9223372036854775807) :
    Calls Try.prog 27 #[.pointer (some ⟨g, 0, none⟩), .agg #[.string (strOfNums (bs.drop p)), .int .i64 x1], .agg #[.int .i64 q, .int .u64 n, .int .i64 m, .slice A' nn c']] w (ReadsPost bs B g w) := by
  obtain ⟨r7, hr7⟩ : ∃ r7, Go.bits .and .i64 q 7 = r7 := ⟨_, rfl⟩
  obtain ⟨r, hr5⟩ : ∃ r, Int.tmod r7 5 = r := ⟨_, rfl⟩
  by_cases c0 : r = 0
  · subst c0
    exact reads_num h hb hp hl q n m A' nn c' hm r7 hr7 hr5
  · by_cases c1 : r = 1
    · subst c1
      exact reads_var h hb hp hl q n m A' nn c' hm r7 hr7 hr5
    · by_cases c2 : r = 2
      · subst c2
        exact reads_take h hb hp hl q n m A' nn c' hm r7 hr7 hr5
      · by_cases c3 : r = 3
        · subst c3
          exact reads_text h hb hp hl q n m A' nn c' hm r7 hr7 hr5
        · by_cases c4 : r = 4
          · subst c4
            have hln : (takeR bs p x1 32).1.length = 32 ∨ (takeR bs p x1 32).1.length = 0 := by
              unfold takeR
              split
              · exact .inr rfl
              · split
                · exact .inr rfl
                · refine .inl ?_
                  simp
                  omega
            rcases hln with hln | hln
            · exact reads_hash32 h hb hp hl q n m A' nn c' hm hln r7 hr7 hr5
            · exact reads_hash0 h hb hp hl q n m A' nn c' hm hln r7 hr7 hr5
          · exact reads_none h hb hp hl q n m A' nn c' hm r7 r hr7 hr5 (beq_eq_false_iff_ne.2 c0) (beq_eq_false_iff_ne.2 c1) (beq_eq_false_iff_ne.2 c2) (beq_eq_false_iff_ne.2 c3) (beq_eq_false_iff_ne.2 c4)
set_option maxHeartbeats 8000000 in
set_option maxRecDepth 100000 in
theorem creads_calls (A : Option Addr) (c : Nat) (bs : List Int) (A1 : Option Addr) (c1 : Nat) (xs : List Part) (w : World) (hr : Kd.C (Kd.int .u8) w A bs.length bs) (hc : bs.length ≤ c) (hlen : bs.length < 140737488355328) (hb : ∀ x ∈ bs, 0 ≤ x ∧ x < 256)
    (hr1 : Kd.C kOp w A1 xs.length xs) (hm : xs.length ≤ 9223372036854775807) (hwf : ∀ x ∈ xs, x.2.2.1 ≤ 9223372036854775807) :
    Calls Try.prog 6 #[.slice A bs.length c, .slice A1 xs.length c1] w fun e w' => e = .returned (.bool true) ∧ Below w.heap.size w w' := by
  have HR := Lib.hid hr
  have HC := Lib.hid hc
  have HBY := Lib.hid hb
  have HL := Lib.hid hlen
  have HR1 := Lib.hid hr1
  have HWF := Lib.hid hwf
  by_cases h4 : 400 < bs.length
  · have f1 : decide (400 < (bs.length : Int)) = true := decide_eq_true (by omega)
    clear hr hc hb hlen hr1 hwf h4
    go_enter Try.func6, Try.ntmps6
    go_wp2_with fail
    refine (cof_calls A _ c bs _ rfl HR.out HC.out HL.out).mono ?_
    rintro e w1 ⟨g, rfl, hg1, hp1, hb1⟩
    have HP1 := Lib.hid (show IsR w1 w.heap.size g bs ((0 : Nat) : Int) 0 from hp1)
    have HB1 := Lib.hid hb1
    clear hp1 hb1 hg1
    go_wp2_with fail
    refine (awake_calls _).mono ?_
    rintro e w3 ⟨rfl, hb3⟩
    have HB3 := Lib.hid (HB1.out.trans (Below.mono hb3 HB1.out.size))
    clear hb3
    go_wp2
    go_ret
    exact ⟨rfl, HB3.out⟩
  · have f1 : decide (400 < (bs.length : Int)) = false := decide_eq_false (by omega)
    have HS : Hid (bs.length ≤ 400) := Lib.hid (by omega)
    clear hr hc hb hlen hr1 hwf h4
    go_enter Try.func6, Try.ntmps6
    go_wp2_with fail
    refine (cof_calls A _ c bs _ rfl HR.out HC.out HL.out).mono ?_
    rintro e w1 ⟨g, rfl, hg1, hp1, hb1⟩
    have HP1 := Lib.hid (show IsR w1 w.heap.size g bs ((0 : Nat) : Int) 0 from hp1)
    have HB1 := Lib.hid hb1
    clear hp1 hb1 hg1
    have hcv := Kd.C_string (P := Try.prog) (c := c) Try.underlying22 Try.underlying5 Try.underlying9 (Kd.C_below HR.out HB1.out)
    obtain ⟨s0, hs0⟩ : ∃ s0, strOfNums bs = s0 := ⟨_, rfl⟩
    rw [hs0] at hcv
    have HS0 := Lib.hid hs0
    clear hs0
    go_wp2_with fail
    have HP2 := Lib.hid (HP1.out.alloc (.cells #[.string s0, .int .i64 0] 50))
    have HB2 := Lib.hid (below_alloc HB1.out (.cells #[.string s0, .int .i64 0] 50))
    have HX2 := Lib.hid (show (w1.alloc (.cells #[.string s0, .int .i64 0] 50)).heap[w1.heap.size]? = some (.cells #[.string s0, .int .i64 0] 50 (0, 0)) by simpa using heap_alloc_new w1 _)
    have HXG := Lib.hid (show w1.heap.size ≠ g by have := HP1.out.lt; omega)
    have HXW := Lib.hid HB1.out.size
    have HXG2 := Lib.hid (show g < w1.heap.size from HP1.out.lt)
    clear hcv HP1 HB1
    generalize w1.alloc (.cells #[.string s0, .int .i64 0] 50) = w2 at *
    generalize w1.heap.size = xb at *
    go_loopw [7, 23] (fun k7 i wr => ∃ (k : Int), 0 ≤ k ∧ k ≤ 20 ∧ k ≤ (xs.length : Int) ∧ i = .int .i64 k ∧ k7 = .bool true ∧ Hid (∃ (p : Nat) (x1 : Int), p ≤ bs.length ∧ wr.heap[xb]? = some (.cells #[.string (strOfNums (bs.drop p)), .int .i64 x1] 50 (0, 0)) ∧ IsR wr w.heap.size g bs (p : Int) x1 ∧ Below w.heap.size w wr)) (fun _ i _ => (20 - intOf i).toNat)
    case atStart => exact ⟨0, by omega, by omega, by omega, rfl, rfl, Lib.hid ⟨0, 0, by omega, by rw [List.drop_zero, HS0.out]; exact HX2.out, HP2.out, HB2.out⟩⟩
    case round =>
      clear HP2 HB2 HX2
      obtain ⟨k, hk0, hk20, hkx, rfl, rfl, H⟩ := hrel
      obtain ⟨p, x1, hp, hx, hpr, hbr⟩ := H.out
      have HPL := Lib.hid hp
      have HX := Lib.hid hx
      have HPR := Lib.hid hpr
      have HBR := Lib.hid hbr
      clear hp hx hpr hbr H
      by_cases hlt : k < (xs.length : Int)
      · obtain ⟨ad, A', c', rfl, d0, d1, d2, d3, hl', hC'⟩ := at_op (Kd.C_below HR1.out HBR.out) k hk0 hlt
        have hmm := HWF.out _ (rdP_mem hk0 hlt)
        obtain ⟨⟨q, n, m, ys⟩, hx⟩ : ∃ x, rdP xs k = x := ⟨_, rfl⟩
        rw [hx] at d0 d1 d2 d3 hmm
        simp only at d0 d1 d2 d3 hmm
        have HMM := Lib.hid hmm
        clear hx hmm hl' hC'
        by_cases h19 : 19 < k
        · have f2 : decide (19 < k) = true := decide_eq_true h19
          have HXe := Lib.hid ((heap_alloc_old wr (.cells #[.int .i64 q, .int .u64 n, .int .i64 m, .slice A' ys.length c'] 40) (blk_lt HX.out)).trans HX.out)
          have HPe := Lib.hid (HPR.out.alloc (.cells #[.int .i64 q, .int .u64 n, .int .i64 m, .slice A' ys.length c'] 40))
          have HBe := Lib.hid (below_alloc HBR.out (.cells #[.int .i64 q, .int .u64 n, .int .i64 m, .slice A' ys.length c'] 40))
          clear HX HPR HBR
          obtain ⟨s, hs⟩ : ∃ s, strOfNums (bs.drop p) = s := ⟨_, rfl⟩
          have hsz : (s.size : Int) = (bs.length : Int) - (p : Int) := by rw [← hs, strOfNums_size, List.length_drop]; have := HPL.out; omega
          rw [hs] at HXe
          clear hs
          have y0 : (wr.alloc (.cells #[.int .i64 q, .int .u64 n, .int .i64 m, .slice A' ys.length c'] 40)).cell? ⟨xb, 0, none⟩ = some (.string s) := (blk_cell HXe.out 0).trans rfl
          have y1 : (wr.alloc (.cells #[.int .i64 q, .int .u64 n, .int .i64 m, .slice A' ys.length c'] 40)).cell? ⟨xb, 1, none⟩ = some (.int .i64 x1) := (blk_cell HXe.out 1).trans rfl
          have y2 := blk_frozen HXe.out 1
          have HEND := Lib.hid (show ∀ W : World, IsR W w.heap.size g bs (p : Int) x1 → Calls Try.prog 26 #[.pointer (some ⟨g, 0, none⟩)] W fun e w' => e = .returned (.int .i64 (endR bs p x1)) ∧ IsR w' w.heap.size g bs (p : Int) (endR bs p x1) ∧ RKeep W w' w.heap.size g from fun W hW => cend_calls hW HPL.out (by have := HS.out; omega))
          obtain ⟨E, hE⟩ : ∃ E, endR bs p x1 = E := ⟨_, rfl⟩
          rw [hE] at HEND
          unfold endR at hE
          by_cases cz : x1 = 0
          · have b1 : (x1 == 0) = true := beq_iff_eq.2 cz
            by_cases cl : p < bs.length
            · rw [if_pos ⟨cz, cl⟩] at hE
              have f9 : decide (0 < (s.size : Int)) = true := decide_eq_true (by omega)
              have f9' : decide (0 < s.size) = true := decide_eq_true (by omega)
              subst hE
              clear hsz cz cl
              have HXf := Lib.hid (blk_set HXe.out 1 (.int .i64 3))
              have HPf := Lib.hid (HPe.out.below (B' := xb) ((Below.refl xb _).setCell (p := ⟨xb, 1, none⟩) (Nat.le_refl _) (.int .i64 3)) HXG2.out)
              have HBf := Lib.hid (HBe.out.setCell (p := ⟨xb, 1, none⟩) HXW.out (.int .i64 3))
              go_wp2_with fail
              clear y0 y1 y2
              generalize (wr.alloc (.cells #[.int .i64 q, .int .u64 n, .int .i64 m, .slice A' ys.length c'] 40)).setCell ⟨xb, 1, none⟩ (.int .i64 3) = wf at *
              have ye : wf.cell? ⟨xb, 1, none⟩ = some (.int .i64 3) := (blk_cell HXf.out 1).trans rfl
              go_region_held3 (fun w' => w'.cell? ⟨xb, 1, none⟩ = some (.int .i64 3)) (first | exact ye | exact z1 | exact u1)
                (first | (go_at_call 26; refine (HEND.out _ HPf.out.drew).mono ?_; rintro y w5 ⟨rfl, hp5, hk5⟩; have HP5 := Lib.hid hp5; have HB5 := Lib.hid ((below_drew HBf.out).trans hk5.1); have HX5 := Lib.hid ((hk5.2.2 xb (blk_lt HXf.out) HXG.out (by simp)).trans HXf.out); have z1 : w5.cell? ⟨xb, 1, none⟩ = some (.int .i64 3) := (blk_cell HX5.out 1).trans rfl; clear hp5 hk5) | (go_at_call 11; refine (cerr_calls HP5.out).mono ?_; rintro y w6 ⟨rfl, rfl⟩) | (go_at_call 9; refine (awake_calls _).mono ?_; rintro y w7 ⟨rfl, hb7⟩; have HB7 := Lib.hid (HB5.out.trans (Below.mono hb7 HB5.out.size)); have u1 : w7.cell? ⟨xb, 1, none⟩ = some (.int .i64 3) := pw_cell_below hb7 z1; clear hb7))
              all_goals
                go_wp2
                go_ret
                exact ⟨rfl, HB7.out⟩
            · rw [if_neg (fun h => cl h.2)] at hE
              have f9 : decide (0 < (s.size : Int)) = false := decide_eq_false (by have := HPL.out; omega)
              have f9' : decide (0 < s.size) = false := decide_eq_false (by have := HPL.out; omega)
              subst hE
              clear hsz cz cl
              have HXf := HXe
              have HPf := HPe
              have HBf := HBe
              have ye := y1
              go_wp2_with fail
              go_region_held3 (fun w' => w'.cell? ⟨xb, 1, none⟩ = some (.int .i64 x1)) (first | exact ye | exact z1 | exact u1)
                (first | (go_at_call 26; refine (HEND.out _ HPf.out.drew).mono ?_; rintro y w5 ⟨rfl, hp5, hk5⟩; have HP5 := Lib.hid hp5; have HB5 := Lib.hid ((below_drew HBf.out).trans hk5.1); have HX5 := Lib.hid ((hk5.2.2 xb (blk_lt HXf.out) HXG.out (by simp)).trans HXf.out); have z1 : w5.cell? ⟨xb, 1, none⟩ = some (.int .i64 x1) := (blk_cell HX5.out 1).trans rfl; clear hp5 hk5) | (go_at_call 11; refine (cerr_calls HP5.out).mono ?_; rintro y w6 ⟨rfl, rfl⟩) | (go_at_call 9; refine (awake_calls _).mono ?_; rintro y w7 ⟨rfl, hb7⟩; have HB7 := Lib.hid (HB5.out.trans (Below.mono hb7 HB5.out.size)); have u1 : w7.cell? ⟨xb, 1, none⟩ = some (.int .i64 x1) := pw_cell_below hb7 z1; clear hb7))
              all_goals
                go_wp2
                go_ret
                exact ⟨rfl, HB7.out⟩
          · have b1 : (x1 == 0) = false := beq_eq_false_iff_ne.2 cz
            rw [if_neg (fun h => cz h.1)] at hE
            subst hE
            clear hsz cz
            have HXf := HXe
            have HPf := HPe
            have HBf := HBe
            have ye := y1
            go_wp2_with fail
            go_region_held3 (fun w' => w'.cell? ⟨xb, 1, none⟩ = some (.int .i64 x1)) (first | exact ye | exact z1 | exact u1)
              (first | (go_at_call 26; refine (HEND.out _ HPf.out.drew).mono ?_; rintro y w5 ⟨rfl, hp5, hk5⟩; have HP5 := Lib.hid hp5; have HB5 := Lib.hid ((below_drew HBf.out).trans hk5.1); have HX5 := Lib.hid ((hk5.2.2 xb (blk_lt HXf.out) HXG.out (by simp)).trans HXf.out); have z1 : w5.cell? ⟨xb, 1, none⟩ = some (.int .i64 x1) := (blk_cell HX5.out 1).trans rfl; clear hp5 hk5) | (go_at_call 11; refine (cerr_calls HP5.out).mono ?_; rintro y w6 ⟨rfl, rfl⟩) | (go_at_call 9; refine (awake_calls _).mono ?_; rintro y w7 ⟨rfl, hb7⟩; have HB7 := Lib.hid (HB5.out.trans (Below.mono hb7 HB5.out.size)); have u1 : w7.cell? ⟨xb, 1, none⟩ = some (.int .i64 x1) := pw_cell_below hb7 z1; clear hb7))
            all_goals
              go_wp2
              go_ret
              exact ⟨rfl, HB7.out⟩
        · have f2 : decide (19 < k) = false := decide_eq_false h19
          have HX0 := Lib.hid ((heap_alloc_old wr (.cells #[.int .i64 q, .int .u64 n, .int .i64 m, .slice A' ys.length c'] 40) (blk_lt HX.out)).trans HX.out)
          have HP0 := Lib.hid (HPR.out.alloc (.cells #[.int .i64 q, .int .u64 n, .int .i64 m, .slice A' ys.length c'] 40))
          have HB0 := Lib.hid (below_alloc HBR.out (.cells #[.int .i64 q, .int .u64 n, .int .i64 m, .slice A' ys.length c'] 40))
          have y0 : (wr.alloc (.cells #[.int .i64 q, .int .u64 n, .int .i64 m, .slice A' ys.length c'] 40)).cell? ⟨xb, 0, none⟩ = some (.string (strOfNums (bs.drop p))) := (blk_cell HX0.out 0).trans rfl
          have y1 : (wr.alloc (.cells #[.int .i64 q, .int .u64 n, .int .i64 m, .slice A' ys.length c'] 40)).cell? ⟨xb, 1, none⟩ = some (.int .i64 x1) := (blk_cell HX0.out 1).trans rfl
          clear HX HPR HBR
          go_wp2_with fail
          clear y0 y1
          refine (reads_calls HP0.out HBY.out HPL.out (by have := HS.out; omega) q n m A' ys.length c' HMM.out).mono ?_
          rintro e w5 ⟨p2, x2, rfl, hp2, hw5, hk5⟩
          have HP2 := Lib.hid hp2
          have HW5 := Lib.hid hw5
          have HB5 := Lib.hid (HB0.out.trans hk5.1)
          have HX5 := Lib.hid ((hk5.2.2 xb (blk_lt HX0.out) HXG.out (by simp)).trans HX0.out)
          have e0 : w5.cell? ⟨xb, 0, none⟩ = some (.string (strOfNums (bs.drop p))) := (blk_cell HX5.out 0).trans rfl
          have e1 : w5.cell? ⟨xb, 1, none⟩ = some (.int .i64 x1) := (blk_cell HX5.out 1).trans rfl
          have e2 := blk_frozen HX5.out 0
          have e3 := blk_frozen HX5.out 1
          clear hp2 hw5 hk5
          have HXf := Lib.hid (blk_set (blk_set HX5.out 0 (.string (strOfNums (bs.drop p2)))) 1 (.int .i64 x2))
          have HPf := Lib.hid (HW5.out.below (B' := xb) (((Below.refl xb _).setCell (p := ⟨xb, 0, none⟩) (Nat.le_refl _) (.string (strOfNums (bs.drop p2)))).setCell (p := ⟨xb, 1, none⟩) (Nat.le_refl _) (.int .i64 x2)) HXG2.out)
          have HBf := Lib.hid ((HB5.out.setCell (p := ⟨xb, 0, none⟩) HXW.out (.string (strOfNums (bs.drop p2)))).setCell (p := ⟨xb, 1, none⟩) HXW.out (.int .i64 x2))
          go_wp2
          go_roundw
          case rel => exact ⟨k + 1, by omega, by omega, by omega, rfl, rfl, Lib.hid ⟨p2, x2, HP2.out, HXf.out, HPf.out, HBf.out⟩⟩
          case measure => simp [intOf]; omega
      · have hend := 0
        have HXe := HX
        have HPe := HPR
        have HBe := HBR
        clear HX HPR HBR
        obtain ⟨s, hs⟩ : ∃ s, strOfNums (bs.drop p) = s := ⟨_, rfl⟩
        have hsz : (s.size : Int) = (bs.length : Int) - (p : Int) := by rw [← hs, strOfNums_size, List.length_drop]; have := HPL.out; omega
        rw [hs] at HXe
        clear hs
        have y0 : wr.cell? ⟨xb, 0, none⟩ = some (.string s) := (blk_cell HXe.out 0).trans rfl
        have y1 : wr.cell? ⟨xb, 1, none⟩ = some (.int .i64 x1) := (blk_cell HXe.out 1).trans rfl
        have y2 := blk_frozen HXe.out 1
        have HEND := Lib.hid (show ∀ W : World, IsR W w.heap.size g bs (p : Int) x1 → Calls Try.prog 26 #[.pointer (some ⟨g, 0, none⟩)] W fun e w' => e = .returned (.int .i64 (endR bs p x1)) ∧ IsR w' w.heap.size g bs (p : Int) (endR bs p x1) ∧ RKeep W w' w.heap.size g from fun W hW => cend_calls hW HPL.out (by have := HS.out; omega))
        obtain ⟨E, hE⟩ : ∃ E, endR bs p x1 = E := ⟨_, rfl⟩
        rw [hE] at HEND
        unfold endR at hE
        by_cases cz : x1 = 0
        · have b1 : (x1 == 0) = true := beq_iff_eq.2 cz
          by_cases cl : p < bs.length
          · rw [if_pos ⟨cz, cl⟩] at hE
            have f9 : decide (0 < (s.size : Int)) = true := decide_eq_true (by omega)
            have f9' : decide (0 < s.size) = true := decide_eq_true (by omega)
            subst hE
            clear hsz cz cl
            have HXf := Lib.hid (blk_set HXe.out 1 (.int .i64 3))
            have HPf := Lib.hid (HPe.out.below (B' := xb) ((Below.refl xb _).setCell (p := ⟨xb, 1, none⟩) (Nat.le_refl _) (.int .i64 3)) HXG2.out)
            have HBf := Lib.hid (HBe.out.setCell (p := ⟨xb, 1, none⟩) HXW.out (.int .i64 3))
            go_wp2_with fail
            clear y0 y1 y2
            generalize wr.setCell ⟨xb, 1, none⟩ (.int .i64 3) = wf at *
            have ye : wf.cell? ⟨xb, 1, none⟩ = some (.int .i64 3) := (blk_cell HXf.out 1).trans rfl
            go_region_held3 (fun w' => w'.cell? ⟨xb, 1, none⟩ = some (.int .i64 3)) (first | exact ye | exact z1 | exact u1)
              (first | (go_at_call 26; refine (HEND.out _ HPf.out.drew).mono ?_; rintro y w5 ⟨rfl, hp5, hk5⟩; have HP5 := Lib.hid hp5; have HB5 := Lib.hid ((below_drew HBf.out).trans hk5.1); have HX5 := Lib.hid ((hk5.2.2 xb (blk_lt HXf.out) HXG.out (by simp)).trans HXf.out); have z1 : w5.cell? ⟨xb, 1, none⟩ = some (.int .i64 3) := (blk_cell HX5.out 1).trans rfl; clear hp5 hk5) | (go_at_call 11; refine (cerr_calls HP5.out).mono ?_; rintro y w6 ⟨rfl, rfl⟩) | (go_at_call 9; refine (awake_calls _).mono ?_; rintro y w7 ⟨rfl, hb7⟩; have HB7 := Lib.hid (HB5.out.trans (Below.mono hb7 HB5.out.size)); have u1 : w7.cell? ⟨xb, 1, none⟩ = some (.int .i64 3) := pw_cell_below hb7 z1; clear hb7))
            all_goals
              go_wp2
              go_ret
              exact ⟨rfl, HB7.out⟩
          · rw [if_neg (fun h => cl h.2)] at hE
            have f9 : decide (0 < (s.size : Int)) = false := decide_eq_false (by have := HPL.out; omega)
            have f9' : decide (0 < s.size) = false := decide_eq_false (by have := HPL.out; omega)
            subst hE
            clear hsz cz cl
            have HXf := HXe
            have HPf := HPe
            have HBf := HBe
            have ye := y1
            go_wp2_with fail
            go_region_held3 (fun w' => w'.cell? ⟨xb, 1, none⟩ = some (.int .i64 x1)) (first | exact ye | exact z1 | exact u1)
              (first | (go_at_call 26; refine (HEND.out _ HPf.out.drew).mono ?_; rintro y w5 ⟨rfl, hp5, hk5⟩; have HP5 := Lib.hid hp5; have HB5 := Lib.hid ((below_drew HBf.out).trans hk5.1); have HX5 := Lib.hid ((hk5.2.2 xb (blk_lt HXf.out) HXG.out (by simp)).trans HXf.out); have z1 : w5.cell? ⟨xb, 1, none⟩ = some (.int .i64 x1) := (blk_cell HX5.out 1).trans rfl; clear hp5 hk5) | (go_at_call 11; refine (cerr_calls HP5.out).mono ?_; rintro y w6 ⟨rfl, rfl⟩) | (go_at_call 9; refine (awake_calls _).mono ?_; rintro y w7 ⟨rfl, hb7⟩; have HB7 := Lib.hid (HB5.out.trans (Below.mono hb7 HB5.out.size)); have u1 : w7.cell? ⟨xb, 1, none⟩ = some (.int .i64 x1) := pw_cell_below hb7 z1; clear hb7))
            all_goals
              go_wp2
              go_ret
              exact ⟨rfl, HB7.out⟩
        · have b1 : (x1 == 0) = false := beq_eq_false_iff_ne.2 cz
          rw [if_neg (fun h => cz h.1)] at hE
          subst hE
          clear hsz cz
          have HXf := HXe
          have HPf := HPe
          have HBf := HBe
          have ye := y1
          go_wp2_with fail
          go_region_held3 (fun w' => w'.cell? ⟨xb, 1, none⟩ = some (.int .i64 x1)) (first | exact ye | exact z1 | exact u1)
            (first | (go_at_call 26; refine (HEND.out _ HPf.out.drew).mono ?_; rintro y w5 ⟨rfl, hp5, hk5⟩; have HP5 := Lib.hid hp5; have HB5 := Lib.hid ((below_drew HBf.out).trans hk5.1); have HX5 := Lib.hid ((hk5.2.2 xb (blk_lt HXf.out) HXG.out (by simp)).trans HXf.out); have z1 : w5.cell? ⟨xb, 1, none⟩ = some (.int .i64 x1) := (blk_cell HX5.out 1).trans rfl; clear hp5 hk5) | (go_at_call 11; refine (cerr_calls HP5.out).mono ?_; rintro y w6 ⟨rfl, rfl⟩) | (go_at_call 9; refine (awake_calls _).mono ?_; rintro y w7 ⟨rfl, hb7⟩; have HB7 := Lib.hid (HB5.out.trans (Below.mono hb7 HB5.out.size)); have u1 : w7.cell? ⟨xb, 1, none⟩ = some (.int .i64 x1) := pw_cell_below hb7 z1; clear hb7))
          all_goals
            go_wp2
            go_ret
            exact ⟨rfl, HB7.out⟩
end Go.Proofs.Ytigmkbkmfhlimaa.Hand
