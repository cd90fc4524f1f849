/- The law Sha2Own: its walk. -/
import Derived.Test.YtacebcmgdcmmpaaDoorProg
import Derived.Below
import Derived.Deep.Draws
import Derived.Deep.AppendLies
import Derived.Maps.AppendAt
import Derived.OwnWalk
import Derived.Laws.BytesArg
import Derived.Laws.MakeOwn
import Derived.Laws.OwnMore
import Derived.Deep.OwnRows
import Derived.Tactics
import Derived.Lib.ConvBytes
import Derived.Laws.Slices
import Derived.WalkKit
import Derived.KernelRfl
import Derived.RowKit3
import Derived.Deep.LoopGhost
import Derived.Deep.QuietTactic
import Derived.BigQuiet
import Derived.WideLaws
import Derived.Deep.DeepCutAuto
import Derived.Deep.CutBlock
import Derived.Deep.RegionHeld3
import Derived.Laws.Rows
import Derived.Lib.AppendStr
import Derived.ArgAppend
import Derived.Laws.IdiomCopy
import Derived.OrdersHeld
import Derived.Laws.BitsLemmas
import Derived.RowKit
import Derived.StillTailTactics
import Derived.Test.YtacebcmgdcmmpaaDoorWWords
import Derived.Test.YtacebcmgdcmmpaaDoorWLast
import Derived.Test.YtacebcmgdcmmpaaDoorWMore
import Derived.Lib.Hide
import Derived.Outline
import Derived.Deep.RegionHeld3
import Derived.Deep.DrawnRows
import Derived.Test.YtacebcmgdcmmpaaDoorSumsLaw
namespace Go.Proofs.YtacebcmgdcmmpaaDoor.Hand
open Go Go.RowKit Go.Proofs.YtacebcmgdcmmpaaDoor.Plain Go.Proofs.YtacebcmgdcmmpaaDoor.PAll Go.Proofs.YtacebcmgdcmmpaaDoorW.PrintWords Go.Proofs.YtacebcmgdcmmpaaDoorW.PrintLast Go.Proofs.YtacebcmgdcmmpaaDoorW.PrintMore
set_option linter.unusedVariables false
set_option linter.unusedSimpArgs false
attribute [local go_sem ↓] Go.wp_at_zero Go.wp_at_succ
set_option maxHeartbeats 1000000 in
set_option maxRecDepth 100000 in
theorem ownl_calls (A : Option Addr) (c : Nat) (bs : List Int) (w : World) (hK : KT w) (hr : Kd.C (Kd.int .u8) w A bs.length bs) (hc : bs.length ≤ c) (hb : ∀ x ∈ bs, 0 ≤ x ∧ x < 256) (hm : bs.length ≤ 9223372036854775807) :
    Calls Tryd.prog 5 #[.slice A bs.length c] w fun e w' => e = .returned (.bool true) ∧ Below w.heap.size w w' := by
  have HK := Lib.hid hK
  have hkb : 0 < w.heap.size := hK.lt
  have HKB := Lib.hid hkb
  by_cases hbig : 150 < bs.length
  · obtain ⟨n, hn⟩ : ∃ n, bs.length = n := ⟨_, rfl⟩
    rw [hn] at hbig hm ⊢
    have hgt : (150 : Int) < (n : Int) := by omega
    clear hr hb hK hn hkb
    go_enter Tryd.func5, Tryd.ntmps5
    go_wp2_with fail
    refine (new_calls _).mono ?_
    rintro e w1 ⟨g, rfl, hI1, hb1⟩
    have HB := Lib.hid hb1
    clear hb1 hI1
    go_wp2_with fail
    refine (awake_calls _ (HK.out.below HB.out (Nat.le_refl _))).mono ?_
    rintro e w2 ⟨rfl, hb2⟩
    have HB2 := Lib.hid (HB.out.trans (Below.mono hb2 HB.out.size))
    clear hb2
    go_wp2
    go_ret
    exact ⟨rfl, HB2.out⟩
  · have HBY := Lib.hid hb
    have hcv0 : ∀ u : World, Below w.heap.size w u → (convert 27 9 (.slice A bs.length c)).run Tryd.prog u = .ok (.string (strOfNums bs)) u := fun u hu => Kd.C_string (P := Tryd.prog) Tryd.underlying27 Tryd.underlying5 Tryd.underlying9 (Kd.C_below hr hu)
    have HRS := Lib.hid (fun W => rsum_calls bs W (by omega) hb)
    have q1 := eq32_same (sumP bs) (sumP_len _)
    obtain ⟨T, hT⟩ : ∃ T, strOfNums bs = T := ⟨_, rfl⟩
    rw [hT] at hcv0 HRS
    have HT := Lib.hid hT
    obtain ⟨R1, hR1⟩ : ∃ R, (nums .u8 (sumP bs)).toArray = R := ⟨_, rfl⟩
    rw [hR1] at HRS q1
    have HSR := Lib.hid hR1
    obtain ⟨n, hn⟩ : ∃ n, bs.length = n := ⟨_, rfl⟩
    rw [hn] at hcv0 hbig hr ⊢
    have HR := Lib.hid hr
    have HN := Lib.hid hn
    have HL := Lib.hid hbig
    have hgt : (n : Int) ≤ 150 := by omega
    have HCV := Lib.hid hcv0
    clear hr hb hK hn hT hR1 hcv0 hm hkb
    go_enter Tryd.func5, Tryd.ntmps5
    go_wp2_with fail
    refine (new_calls _).mono ?_
    rintro e w1 ⟨g, rfl, hI1, hb1⟩
    have HI1 := Lib.hid hI1
    have HB1 := Lib.hid hb1
    have HE : Kd.R (Kd.int .u8) 5 (w1.alloc (.cells #[] 5)) w1.heap.size (fun _ => True) (.slice (some ⟨w1.heap.size, 0, none⟩) 0 0) [] := ⟨fun _ _ => trivial, OwnRow.lit w1 w1.heap.size (ps := ([] : List Int)) (inner := []) (Reps.none _ _) (Nat.le_refl _) (by simp)⟩
    have HE0 := Lib.hid HE
    have HEB := Lib.hid (below_alloc (Below.refl w1.heap.size w1) (.cells #[] 5))
    have HCI := Lib.hid (show Kd.C (Kd.int .u8) (w1.alloc (.cells #[] 5)) A n bs from Kd.C_below HR.out (hb1.alloc hb1.size _))
    clear hI1 hb1 HE
    go_wp2_with ((with_reducible refine gate_builtin (b := .append) (xs := #[.tmp 13, .tmp 14]) rfl ?_); (go_loud (at_builtin; refine Kd.R_append_rows (Kd.int .u8) (w0 := w1) w1.heap.size rfl (.tmp 13) (.tmp 14) 27 5 (.int .u8 0) 1 rfl Tryd.underlying27 info5 rfl (by decide) (by omega) (.slice (some ⟨w1.heap.size, 0, none⟩) 0 0) ([] : List Int) bs _ _ _ (fun _ => True) (fun _ => False) rfl rfl ?aO ?aR (fun _ _ h => h) (fun _ h => h.elim) ?aF ?aB ?aS ?aL ?_; (case aR => exact HCI.out); (case aB => exact HEB.out); (case aF => exact (fun _ _ => trivial)); (case aO => exact HE0.out); (case aS => exact HEB.out.size); (case aL => have := HL.out; have := HN.out; simp; omega); intro v3 w3 ho hb hg hat; rw [List.nil_append] at ho; have HV3 := Lib.hid ho; have HB3 := Lib.hid hb; clear ho hb hg hat)))
    obtain ⟨A3, c3, hv3, hc3, hC3⟩ := Kd.R_reads HV3.out
    rw [HN.out] at hv3 hc3
    subst hv3
    have hR3 := HV3.out
    have hb3 := HB3.out
    have hs1 := HB1.out.size
    have hg1 : g < w1.heap.size := HI1.out.lt
    have hB3 : Below w.heap.size w w3 := HB1.out.trans (Below.mono hb3 hs1)
    refine (write_calls (HI1.out.below hb3) A3 c3 n bs HN.out (SrcRow.ofR hR3 hg1) hc3 HBY.out (by have := HL.out; simp; omega) hB3.size (HK.out.below hB3 (Nat.le_refl _)) HKB.out).mono ?_
    rintro e w4 ⟨rfl, hI4, hb4, hk4⟩
    rw [List.nil_append] at hI4
    have hR4 : Kd.R (Kd.int .u8) 5 w4 w1.heap.size (fun _ => True) (.slice A3 n c3) bs := Kd.R_mono (Kd.R_keep (Kd.R_bound hR3) hk4 (fun k h => by have := h.2.1; omega)) (fun _ _ => trivial)
    have hB4 : Below w.heap.size w w4 := hB3.trans hb4
    have c1 : (convert 27 9 (.slice A3 n c3)).run Tryd.prog w4 = .ok (.string T) w4 := by
      have h := Kd.C_string (P := Tryd.prog) (src := 27) (dst := 9) (c := c3) Tryd.underlying27 Tryd.underlying5 Tryd.underlying9 (Kd.R_reads' hR4).2.2
      rwa [HN.out, HT.out] at h
    have c2 := HCV.out w4 hB4
    have HR4 := Lib.hid hR4
    have HB4 := Lib.hid hB4
    have HI4 := Lib.hid hI4
    have HG := Lib.hid (show w.heap.size ≤ w1.heap.size ∧ g < w1.heap.size ∧ w.heap.size ≤ g from ⟨hs1, hg1, HI1.out.1⟩)
    clear hc3 hC3 hR3 hb3 hs1 hg1 hB3 hI4 hb4 hk4 hR4 hB4
    go_wp2_with fail
    clear c1 c2
    go_loopw [26] (fun i wr => ∃ (k : Nat) (xs : List Int), k ≤ n ∧ i = .int .i64 (k : Int) ∧ Hid (xs.length = n ∧ Kd.R (Kd.int .u8) 5 wr w1.heap.size (fun _ => True) (.slice A3 n c3) xs ∧ Below w.heap.size w wr ∧ IsH wr w.heap.size g bs)) (fun i _ => (n - (intOf i).toNat))
    case atStart => exact ⟨0, bs, by omega, rfl, Lib.hid ⟨HN.out, HR4.out, HB4.out, HI4.out⟩⟩
    case round =>
      obtain ⟨k, xs, hk, rfl, H⟩ := hrel
      obtain ⟨hxl, hR, hbl, hI⟩ := H.out
      by_cases hlt : k < n
      · obtain ⟨g5, cap, hv, hgb, hgl, -⟩ := Kd.R_form hR (by omega)
        injection hv with hv1 hv2 hv3
        subst hv1
        obtain ⟨c0, f0⟩ := Kd.R_celln (0 : Int) hR (k : Int) (by omega) (by omega)
        rw [Int.toNat_natCast] at c0 f0
        have HXL := Lib.hid hxl
        have HP := Lib.hid (fun p : Int => Kd.R_putn hR (k : Int) p)
        have HBL := Lib.hid (fun v => hbl.setCell (p := ⟨g5, k, none⟩) (show w.heap.size ≤ g5 by have := HG.out; omega) v)
        have HII := Lib.hid (fun v => hI.keep (Below.heap_setCell wr ⟨g5, k, none⟩ v g (show g ≠ g5 by have := HG.out; omega)))
        have k0 : (0 : Int) ≤ (k : Int) := by omega
        have k1 : (k : Int) < (n : Int) := by omega
        clear hR hbl hI H hv2 hv3 hgb hgl hxl
        go_wp2_with fail
        refine ⟨⟨k + 1, _, by omega, by go_num, Lib.hid ⟨?_, HP.out ((rdOf 0 xs (k : Int) + 1) % 256), HBL.out _, HII.out _⟩⟩, by simp only [intOf]; omega⟩
        rw [List.length_set]
        exact HXL.out
      · obtain rfl : k = n := by omega
        have HBL := Lib.hid hbl
        have HRL := Lib.hid (show ∀ u : World, Below wr.heap.size wr u → Below w.heap.size w u from fun u hu => hbl.trans (Below.mono hu hbl.size))
        have HSM := Lib.hid (show Calls Tryd.prog 16 #[.pointer (some ⟨g, 0, none⟩)] wr.drew fun e w' => e = .returned (.agg R1) ∧ Below wr.heap.size wr.drew w' from by
          have h := hsum_calls (w := wr.drew) (B := w.heap.size) (g := g) (bs := bs) (hI.below (below_drew (Below.refl _ _))) (by have := HN.out; omega) HBY.out (HK.out.below (below_drew hbl) (Nat.le_refl _))
          rw [HSR.out] at h
          exact h)
        have HBD := Lib.hid (below_drew (Below.refl wr.heap.size wr))
        clear hR hbl hI H hxl hlt hk
        go_wp2_with fail
        go_region_held3 (fun u => (convert 27 9 (.slice A k c)).run Tryd.prog u = .ok (.string T) u) (first | exact HCV.out _ (HRL.out _ HB9.out) | exact HCV.out _ (HRL.out _ HB6.out) | exact HCV.out _ (HRL.out _ HB5.out) | exact HCV.out _ (HRL.out _ HBD.out))
          (first
            | (go_at_call 16; (with_reducible refine HSM.out.mono ?_); rintro e w5 ⟨rfl, hb5⟩; have HB5 := Lib.hid (HBD.out.trans hb5); clear hb5)
            | (go_at_call 13; (with_reducible refine (HRS.out _).mono ?_); rintro e w6 ⟨rfl, hb6⟩; have HB6 := Lib.hid (HB5.out.trans (Below.mono hb6 HB5.out.size)); clear hb6)
            | (go_at_call 11; (with_reducible refine (awake_calls _ (HK.out.below (HRL.out _ HB6.out) (Nat.le_refl _))).mono ?_); rintro e w9 ⟨rfl, hb9⟩; have HB9 := Lib.hid (HB6.out.trans (Below.mono hb9 HB6.out.size)); clear hb9))
        all_goals
          clear q1
          go_wp2
          go_ret
          exact ⟨rfl, HRL.out _ HB9.out⟩
end Go.Proofs.YtacebcmgdcmmpaaDoor.Hand
