/- The law Sha2Sums: its walk. -/
import Derived.Test.YtacebcmgdcmmpaaDoorProg
import Derived.Below
import Derived.Deep.Draws
import Derived.Deep.AppendLies
import Derived.Maps.AppendAt
import Derived.OwnWalk
import Derived.Laws.BytesArg
import Derived.Laws.MakeOwn
import Derived.Laws.OwnMore
import Derived.Deep.OwnRows
import Derived.Tactics
import Derived.Lib.ConvBytes
import Derived.Laws.Slices
import Derived.WalkKit
import Derived.KernelRfl
import Derived.RowKit3
import Derived.Deep.LoopGhost
import Derived.Deep.QuietTactic
import Derived.BigQuiet
import Derived.WideLaws
import Derived.Deep.DeepCutAuto
import Derived.Deep.CutBlock
import Derived.Deep.RegionHeld3
import Derived.Laws.Rows
import Derived.Lib.AppendStr
import Derived.ArgAppend
import Derived.Laws.IdiomCopy
import Derived.OrdersHeld
import Derived.Laws.BitsLemmas
import Derived.RowKit
import Derived.StillTailTactics
import Derived.Test.YtacebcmgdcmmpaaDoorWWords
import Derived.Test.YtacebcmgdcmmpaaDoorWLast
import Derived.Test.YtacebcmgdcmmpaaDoorWMore
import Derived.Lib.Hide
import Derived.Outline
import Derived.Deep.RegionHeld3
import Derived.Deep.DrawnRows
import Derived.Test.YtacebcmgdcmmpaaDoorArrEq
import Derived.Test.YtacebcmgdcmmpaaDoorRefTwice
namespace Go.Proofs.YtacebcmgdcmmpaaDoor.Hand
open Go Go.RowKit Go.Proofs.YtacebcmgdcmmpaaDoor.Plain Go.Proofs.YtacebcmgdcmmpaaDoor.PAll Go.Proofs.YtacebcmgdcmmpaaDoorW.PrintWords Go.Proofs.YtacebcmgdcmmpaaDoorW.PrintLast Go.Proofs.YtacebcmgdcmmpaaDoorW.PrintMore
set_option linter.unusedVariables false
set_option linter.unusedSimpArgs false
theorem eq32 (S T : List Int) (hS : S.length = 32) (hT : T.length = 32) (w : World) : (Op.equalIn 10000 31 (.agg (nums .u8 S).toArray) (.agg (nums .u8 T).toArray)).run Tryd.prog w = .ok (S == T) w :=
  run_equalIn_nums (P := Tryd.prog) w 9998 31 5 32 .u8 Tryd.underlying31 Tryd.underlying5 (fun w => by rfl) S T hS hT
theorem eq32_same (S : List Int) (hS : S.length = 32) (w : World) : (Op.equalIn 10000 31 (.agg (nums .u8 S).toArray) (.agg (nums .u8 S).toArray)).run Tryd.prog w = .ok true w := by
  have h := eq32 S S hS hS w
  rwa [beq_self_eq_true] at h
attribute [local go_sem ↓] Go.wp_at_zero Go.wp_at_succ
set_option maxHeartbeats 1000000 in
set_option maxRecDepth 100000 in
theorem sumsl_calls (A : Option Addr) (c : Nat) (bs : List Int) (w : World) (hK : KT w) (hr : Kd.C (Kd.int .u8) w A bs.length bs) (hc : bs.length ≤ c) (hb : ∀ x ∈ bs, 0 ≤ x ∧ x < 256) (hm : bs.length ≤ 9223372036854775807) :
    Calls Tryd.prog 7 #[.slice A bs.length c] w fun e w' => e = .returned (.bool true) ∧ Below w.heap.size w w' := by
  have HK := Lib.hid hK
  by_cases hbig : 300 < bs.length
  · obtain ⟨n, hn⟩ : ∃ n, bs.length = n := ⟨_, rfl⟩
    rw [hn] at hbig hm ⊢
    have hgt : (300 : Int) < (n : Int) := by omega
    clear hr hb hK hn
    go_enter Tryd.func7, Tryd.ntmps7
    go_wp2_with fail
    refine (awake_calls _ HK.out).mono ?_
    rintro e w1 ⟨rfl, hb1⟩
    have HB := Lib.hid hb1
    clear hb1
    go_wp2
    go_ret
    exact ⟨rfl, HB.out⟩
  · have hcv0 : ∀ u : World, Below w.heap.size w u → (convert 27 9 (.slice A bs.length c)).run Tryd.prog u = .ok (.string (strOfNums bs)) u := fun u hu => Kd.C_string (P := Tryd.prog) Tryd.underlying27 Tryd.underlying5 Tryd.underlying9 (Kd.C_below hr hu)
    have HS := Lib.hid (show ∀ (V : World) (b : Nat), Below w.heap.size w V → V.heap[b]? = some (.cells #[.slice A bs.length c] 27 (0, 0)) → Calls Tryd.prog 12 #[.slice (some ⟨b, 0, none⟩) 1 1] V fun e w' => e = .returned (.agg (nums .u8 (sumP bs)).toArray) ∧ Below V.heap.size V w' from fun V b hV hb2 => by
      have h := sums_calls (some ⟨b, 0, none⟩) 1 1 [bs] V rfl (C_one hb2 hc (Kd.C_below hr hV)) (by simpa using hb) (by simp; omega) (by decide) (hK.below hV (Nat.le_refl _))
      rwa [show [bs].flatten = bs by simp] at h)
    have HT := Lib.hid (show ∀ (V : World) (b : Nat), Below w.heap.size w V → V.heap[b]? = some (.cells #[.slice A bs.length c] 27 (0, 0)) → Calls Tryd.prog 18 #[.slice (some ⟨b, 0, none⟩) 1 1] V fun e w' => e = .returned (.agg (nums .u8 (twiceP bs)).toArray) ∧ Below V.heap.size V w' from fun V b hV hb2 => by
      have h := twice_calls (some ⟨b, 0, none⟩) 1 1 [bs] V rfl (C_one hb2 hc (Kd.C_below hr hV)) (by simpa using hb) (by simp; omega) (by decide) (hK.below hV (Nat.le_refl _))
      rwa [show [bs].flatten = bs by simp] at h)
    have HRS := Lib.hid (fun W => rsum_calls bs W (by omega) hb)
    have HRT := Lib.hid (fun W => rtwice_calls bs W (by omega) hb)
    have q1 := eq32_same (sumP bs) (sumP_len _)
    have q2 := eq32_same (twiceP bs) (sumP_len _)
    obtain ⟨T, hT⟩ : ∃ T, strOfNums bs = T := ⟨_, rfl⟩
    rw [hT] at hcv0 HRS HRT
    obtain ⟨R1, hR1⟩ : ∃ R, (nums .u8 (sumP bs)).toArray = R := ⟨_, rfl⟩
    rw [hR1] at HS HRS q1
    obtain ⟨R2, hR2⟩ : ∃ R, (nums .u8 (twiceP bs)).toArray = R := ⟨_, rfl⟩
    rw [hR2] at HT HRT q2
    obtain ⟨n, hn⟩ : ∃ n, bs.length = n := ⟨_, rfl⟩
    rw [hn] at hcv0 HS HT hbig ⊢
    have hgt : (n : Int) ≤ 300 := by omega
    have HCV := Lib.hid hcv0
    clear hr hb hK hn hT hR1 hR2 hcv0 hm
    go_enter Tryd.func7, Tryd.ntmps7
    go_wp2_with fail
    have HBD := Lib.hid (below_drew (Below.refl w.heap.size w))
    have HBA := Lib.hid (below_drew (below_alloc (Below.refl w.heap.size w) (.cells #[.slice A n c] 27)))
    have HS0 := Lib.hid (HS.out (w.alloc (.cells #[.slice A n c] 27)).drew w.heap.size HBA.out (heap_alloc_new w _))
    have HT6 := Lib.hid (show ∀ w6 : World, Below w.heap.size w w6 → Calls Tryd.prog 18 #[.slice (some ⟨w6.heap.size, 0, none⟩) 1 1] (w6.alloc (.cells #[.slice A n c] 27)) fun e w' => e = .returned (.agg R2) ∧ Below (w6.alloc (.cells #[.slice A n c] 27)).heap.size (w6.alloc (.cells #[.slice A n c] 27)) w' from fun w6 h6 => HT.out _ _ (h6.alloc h6.size _) (heap_alloc_new w6 _))
    go_region_held3 (fun u => (convert 27 9 (.slice A n c)).run Tryd.prog u = .ok (.string T) u) (first | exact HCV.out _ HB9.out | exact HCV.out _ HB8.out | exact HCV.out _ HB7.out | exact HCV.out _ (HB6.out.alloc HB6.out.size _) | exact HCV.out _ HB6.out | exact HCV.out _ HB5.out | exact HCV.out _ HBA.out | exact HCV.out _ HBD.out)
      (first
        | (go_at_call 12; (with_reducible refine HS0.out.mono ?_); rintro e w5 ⟨rfl, hb5⟩; have HB5 := Lib.hid (HBA.out.trans (Below.mono hb5 HBA.out.size)); clear hb5)
        | (go_at_call 13; (with_reducible refine (HRS.out _).mono ?_); rintro e w6 ⟨rfl, hb6⟩; have HB6 := Lib.hid (HB5.out.trans (Below.mono hb6 HB5.out.size)); clear hb6)
        | (go_at_call 18; (with_reducible refine (HT6.out w6 HB6.out).mono ?_); rintro e w7 ⟨rfl, hb7⟩; have HB7 := Lib.hid ((HB6.out.alloc HB6.out.size _).trans (Below.mono hb7 (HB6.out.alloc HB6.out.size _).size)); clear hb7)
        | (go_at_call 19; (with_reducible refine (HRT.out _).mono ?_); rintro e w8 ⟨rfl, hb8⟩; have HB8 := Lib.hid (HB7.out.trans (Below.mono hb8 HB7.out.size)); clear hb8)
        | (go_at_call 11; (with_reducible refine (awake_calls _ (HK.out.below HB8.out (Nat.le_refl _))).mono ?_); rintro e w9 ⟨rfl, hb9⟩; have HB9 := Lib.hid (HB8.out.trans (Below.mono hb9 HB8.out.size)); clear hb9))
    all_goals
      clear q1 q2
      go_wp2
      go_ret
      exact ⟨rfl, HB9.out⟩
end Go.Proofs.YtacebcmgdcmmpaaDoor.Hand
