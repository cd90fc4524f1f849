/- The law Sha2Ends: its walk. -/
import Derived.Test.YtacebcmgdcmmpaaDoorProg
import Derived.Below
import Derived.Deep.Draws
import Derived.Deep.AppendLies
import Derived.Maps.AppendAt
import Derived.OwnWalk
import Derived.Laws.BytesArg
import Derived.Laws.MakeOwn
import Derived.Laws.OwnMore
import Derived.Deep.OwnRows
import Derived.Tactics
import Derived.Lib.ConvBytes
import Derived.Laws.Slices
import Derived.WalkKit
import Derived.KernelRfl
import Derived.RowKit3
import Derived.Deep.LoopGhost
import Derived.Deep.QuietTactic
import Derived.BigQuiet
import Derived.WideLaws
import Derived.Deep.DeepCutAuto
import Derived.Deep.CutBlock
import Derived.Deep.RegionHeld3
import Derived.Laws.Rows
import Derived.Lib.AppendStr
import Derived.ArgAppend
import Derived.Laws.IdiomCopy
import Derived.OrdersHeld
import Derived.Laws.BitsLemmas
import Derived.RowKit
import Derived.StillTailTactics
import Derived.Test.YtacebcmgdcmmpaaDoorWWords
import Derived.Test.YtacebcmgdcmmpaaDoorWLast
import Derived.Test.YtacebcmgdcmmpaaDoorWMore
import Derived.Lib.Hide
import Derived.Outline
import Derived.Deep.RegionHeld3
import Derived.Deep.DrawnRows
import Derived.Test.YtacebcmgdcmmpaaDoorSumsLaw
namespace Go.Proofs.YtacebcmgdcmmpaaDoor.Hand
open Go Go.RowKit Go.Proofs.YtacebcmgdcmmpaaDoor.Plain Go.Proofs.YtacebcmgdcmmpaaDoor.PAll Go.Proofs.YtacebcmgdcmmpaaDoorW.PrintWords Go.Proofs.YtacebcmgdcmmpaaDoorW.PrintLast Go.Proofs.YtacebcmgdcmmpaaDoorW.PrintMore
set_option linter.unusedVariables false
set_option linter.unusedSimpArgs false
def fillR (c : Int) (k m : Nat) : List Int := List.replicate k c ++ List.replicate (m - k) 0
theorem fillR_len (c : Int) (k m : Nat) (h : k ≤ m) : (fillR c k m).length = m := by simp [fillR]; omega
theorem fillR_set (c : Int) (k m : Nat) (h : k < m) : (fillR c k m).set k c = fillR c (k + 1) m := by
  unfold fillR
  rw [List.set_append_right _ _ (by simp), List.length_replicate, Nat.sub_self, show m - k = (m - (k + 1)) + 1 by omega, List.replicate_succ, List.set_cons_zero, List.replicate_succ']
  simp
attribute [local go_sem ↓] Go.wp_at_zero Go.wp_at_succ
set_option maxHeartbeats 1000000 in
set_option maxRecDepth 100000 in
theorem endsl_calls (x a : Int) (w : World) (hK : KT w) (hx : 0 ≤ x ∧ x < 256) (ha : 0 ≤ a ∧ a < 256) :
    Calls Tryd.prog 4 #[.int .u8 x, .int .u8 a] w fun e w' => e = .returned (.bool true) ∧ Below w.heap.size w w' := by
  have HK := Lib.hid hK
  obtain ⟨m, hm⟩ : ∃ m : Nat, (if (200 : Int) < a then 200 else a) = (m : Int) := by
    by_cases h : (200 : Int) < a
    · exact ⟨200, by rw [if_pos h]; rfl⟩
    · exact ⟨a.toNat, by rw [if_neg h]; omega⟩
  have hm2 : m ≤ 200 := by split at hm <;> omega
  have hai : IntKind.i64.wrap a = a := by rw [IntKind.wrap_i64]; omega
  have HM := Lib.hid hm2
  have HX := Lib.hid hx
  have a0 := ha.1
  have a1 := ha.2
  have HU27 := Lib.hid Tryd.underlying27
  have HMK := Lib.hid (And.intro (show (0 : Int) ≤ (m : Int) by omega) (And.intro (show (m : Int).toNat * 1 ≤ 281474976710656 by omega) (Below.refl w.heap.size w)))
  clear hK hx ha hm2
  go_enter Tryd.func4, Tryd.ntmps4
  go_wp2_with (at_make; (go_loud (refine Kd.R_make (Kd.int .u8) (w0 := w) w.heap.size 5 rfl rfl 27 (.tmp 9) (.tmp 9) rfl (m : Int) rfl rfl HU27.out (.int .u8 0) 1 info5 rfl (by decide) (by decide) (0 : Int) (ok := fun _ => True) (okp := fun _ => False) rfl (fun _ h => h.elim) trivial HMK.out.1 HMK.out.2.1 HMK.out.2.2 (Nat.le_refl _) ?_)); intro v1 w3 hR hb hg hat; obtain ⟨AE, cE, hv⟩ := Kd.R_slice hR; subst hv; rw [List.length_replicate, Int.toNat_natCast] at hR ⊢; have HR := Lib.hid hR; have HB3 := Lib.hid hb; clear hR hb hg hat)
  go_loopw [13] (fun i wr => ∃ k : Nat, k ≤ m ∧ i = .int .i64 (k : Int) ∧ Hid (Kd.R (Kd.int .u8) 5 wr w.heap.size (fun _ => True) (.slice AE m cE) (fillR x k m) ∧ Below w.heap.size w wr)) (fun i _ => (m - (intOf i).toNat))
  case atStart => exact ⟨0, by omega, rfl, Lib.hid ⟨by simpa [fillR] using HR.out, HB3.out⟩⟩
  case round =>
    obtain ⟨k, hk, rfl, H⟩ := hrel
    obtain ⟨hR, hbl⟩ := H.out
    by_cases hlt : k < m
    · obtain ⟨g, cap, hv, hgb, hgl, -⟩ := Kd.R_form hR (by rw [fillR_len _ _ _ hk]; omega)
      injection hv with hv1 hv2 hv3
      subst hv1
      obtain ⟨c0, f0⟩ := Kd.R_celln (0 : Int) hR (k : Int) (by omega) (by omega)
      rw [Int.toNat_natCast] at c0 f0
      have hput := Kd.R_putn hR (k : Int) x
      rw [Int.toNat_natCast, fillR_set _ _ _ hlt] at hput
      have HP := Lib.hid hput
      have HBL := Lib.hid (hbl.setCell (p := ⟨g, k, none⟩) hgb (.int .u8 x))
      have k0 : (0 : Int) ≤ (k : Int) := by omega
      have k1 : (k : Int) < (m : Int) := by omega
      clear hR hbl H hput hv2 hv3 hgb hgl
      go_wp2_with fail
      refine ⟨⟨k + 1, by omega, by go_num, Lib.hid ⟨HP.out, HBL.out⟩⟩, by simp only [intOf]; omega⟩
    · obtain rfl : k = m := by omega
      have hfr : fillR x k k = List.replicate k x := by simp [fillR]
      rw [hfr] at hR
      obtain ⟨bs, hbs⟩ : ∃ bs, List.replicate k x = bs := ⟨_, rfl⟩
      have hlen : bs.length = k := by rw [← hbs]; simp
      have hb : ∀ y ∈ bs, 0 ≤ y ∧ y < 256 := fun y hy => by
        rw [← hbs] at hy
        rw [(List.mem_replicate.1 hy).2]
        exact HX.out
      rw [hbs] at hR
      obtain ⟨A2, c2, hv, hc2, hC2⟩ := Kd.R_reads hR
      rw [hlen] at hv hc2
      injection hv with hv1 hv2 hv3
      subst hv1
      subst hv3
      have HBL := Lib.hid hbl
      have HRL := Lib.hid (show ∀ u : World, Below wr.heap.size wr u → Below w.heap.size w u from fun u hu => hbl.trans (Below.mono hu hbl.size))
      have HCV := Lib.hid (show ∀ u : World, Below wr.heap.size wr u → (convert 27 9 (.slice AE k cE)).run Tryd.prog u = .ok (.string (strOfNums bs)) u from fun u hu => by
        have h := Kd.C_string (P := Tryd.prog) (src := 27) (dst := 9) (c := cE) Tryd.underlying27 Tryd.underlying5 Tryd.underlying9 (Kd.C_below hC2 hu)
        rwa [hlen] at h)
      have HS := Lib.hid (show ∀ (V : World) (b : Nat), Below wr.heap.size wr V → V.heap[b]? = some (.cells #[.slice AE k cE] 27 (0, 0)) → Calls Tryd.prog 12 #[.slice (some ⟨b, 0, none⟩) 1 1] V fun e w' => e = .returned (.agg (nums .u8 (sumP bs)).toArray) ∧ Below V.heap.size V w' from fun V b hV hb2 => by
        have h := sums_calls (some ⟨b, 0, none⟩) 1 1 [bs] V rfl (C_one (A := AE) (c := cE) (ys := bs) (by rw [hlen]; exact hb2) (by rw [hlen]; exact hc2) (Kd.C_below hC2 hV)) (by simpa using hb) (by simp; have := HM.out; omega) (by decide) (HK.out.below (HRL.out V hV) (Nat.le_refl _))
        rwa [show [bs].flatten = bs by simp] at h)
      have HRS := Lib.hid (fun W => rsum_calls bs W (by have := HM.out; omega) hb)
      have q1 := eq32_same (sumP bs) (sumP_len _)
      obtain ⟨T, hT⟩ : ∃ T, strOfNums bs = T := ⟨_, rfl⟩
      rw [hT] at HCV HRS
      obtain ⟨R1, hR1⟩ : ∃ R, (nums .u8 (sumP bs)).toArray = R := ⟨_, rfl⟩
      rw [hR1] at HS HRS q1
      clear hR hbl H hfr hbs hlen hb hc2 hC2 hT hR1 hk hlt HR HMK hm hai a0 a1 hv2
      have HBD := Lib.hid (below_drew (Below.refl wr.heap.size wr))
      have HBA := Lib.hid (below_drew (below_alloc (Below.refl wr.heap.size wr) (.cells #[.slice AE k cE] 27)))
      have HS0 := Lib.hid (HS.out (wr.alloc (.cells #[.slice AE k cE] 27)).drew wr.heap.size HBA.out (heap_alloc_new wr _))
      go_wp2_with fail
      go_region_held3 (fun u => (convert 27 9 (.slice AE k cE)).run Tryd.prog u = .ok (.string T) u) (first | exact HCV.out _ HB9.out | exact HCV.out _ HB6.out | exact HCV.out _ HB5.out | exact HCV.out _ HBA.out | exact HCV.out _ HBD.out)
        (first
          | (go_at_call 12; (with_reducible refine HS0.out.mono ?_); rintro e w5 ⟨rfl, hb5⟩; have HB5 := Lib.hid (HBA.out.trans (Below.mono hb5 HBA.out.size)); clear hb5)
          | (go_at_call 13; (with_reducible refine (HRS.out _).mono ?_); rintro e w6 ⟨rfl, hb6⟩; have HB6 := Lib.hid (HB5.out.trans (Below.mono hb6 HB5.out.size)); clear hb6)
          | (go_at_call 11; (with_reducible refine (awake_calls _ (HK.out.below (HRL.out _ HB6.out) (Nat.le_refl _))).mono ?_); rintro e w9 ⟨rfl, hb9⟩; have HB9 := Lib.hid (HB6.out.trans (Below.mono hb9 HB6.out.size)); clear hb9))
      all_goals
        clear q1
        go_wp2
        go_ret
        exact ⟨rfl, HRL.out _ HB9.out⟩
end Go.Proofs.YtacebcmgdcmmpaaDoor.Hand
