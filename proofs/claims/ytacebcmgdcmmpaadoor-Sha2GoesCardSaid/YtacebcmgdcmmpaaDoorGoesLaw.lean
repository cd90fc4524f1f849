/- The law Sha2Goes: its walk. -/
import Derived.Test.YtacebcmgdcmmpaaDoorProg
import Derived.Below
import Derived.Deep.Draws
import Derived.Deep.AppendLies
import Derived.Maps.AppendAt
import Derived.OwnWalk
import Derived.Laws.BytesArg
import Derived.Laws.MakeOwn
import Derived.Laws.OwnMore
import Derived.Deep.OwnRows
import Derived.Tactics
import Derived.Lib.ConvBytes
import Derived.Laws.Slices
import Derived.WalkKit
import Derived.KernelRfl
import Derived.RowKit3
import Derived.Deep.LoopGhost
import Derived.Deep.QuietTactic
import Derived.BigQuiet
import Derived.WideLaws
import Derived.Deep.DeepCutAuto
import Derived.Deep.CutBlock
import Derived.Deep.RegionHeld3
import Derived.Laws.Rows
import Derived.Lib.AppendStr
import Derived.ArgAppend
import Derived.Laws.IdiomCopy
import Derived.OrdersHeld
import Derived.Laws.BitsLemmas
import Derived.RowKit
import Derived.StillTailTactics
import Derived.Test.YtacebcmgdcmmpaaDoorWWords
import Derived.Test.YtacebcmgdcmmpaaDoorWLast
import Derived.Test.YtacebcmgdcmmpaaDoorWMore
import Derived.Lib.Hide
import Derived.Outline
import Derived.Test.YtacebcmgdcmmpaaDoorStrBytes
import Derived.Test.YtacebcmgdcmmpaaDoorPartsLaw
namespace Go.Proofs.YtacebcmgdcmmpaaDoor.Hand
open Go Go.RowKit Go.Proofs.YtacebcmgdcmmpaaDoor.Plain Go.Proofs.YtacebcmgdcmmpaaDoor.PAll Go.Proofs.YtacebcmgdcmmpaaDoorW.PrintWords Go.Proofs.YtacebcmgdcmmpaaDoorW.PrintLast Go.Proofs.YtacebcmgdcmmpaaDoorW.PrintMore
set_option linter.unusedVariables false
set_option linter.unusedSimpArgs false
theorem str_app (a b : List Int) : strOfNums (a ++ b) = strOfNums a ++ strOfNums b := by
  apply ByteArray.ext
  simp [strOfNums, ByteArray.data_append]
set_option maxHeartbeats 1000000 in
set_option maxRecDepth 100000 in
theorem hlen_calls {w : World} {B g : Nat} {bs : List Int} (h : IsH w B g bs) :
    Calls Tryd.prog 17 #[.pointer (some ⟨g, 0, none⟩)] w fun e w' => e = .returned (.int .i64 (bs.length : Int)) ∧ w' = w := by
  have hgl := h.lt
  obtain ⟨_, blk, hblk, hcell⟩ := h
  have c72 := (blk_cell hcell 72).trans (hc_n hblk.1)
  obtain ⟨nb, hnb⟩ : ∃ nb, bs.length = nb := ⟨_, rfl⟩
  rw [hnb] at c72 ⊢
  clear hcell hblk
  go_enter Tryd.func17, Tryd.ntmps17
  go_wp2
  go_ret
  exact ⟨rfl, rfl⟩
set_option maxHeartbeats 1000000 in
set_option maxRecDepth 100000 in
theorem goesl_calls (A : Option Addr) (n c : Nat) (yss : List (List Int)) (w : World) (hK : KT w) (hn : yss.length = n) (hr : Kd.C kBs w A n yss) (hy : ∀ ys ∈ yss, ∀ x ∈ ys, 0 ≤ x ∧ x < 256) (hm : n ≤ 9223372036854775807) :
    Calls Tryd.prog 6 #[.slice A n c] w fun e w' => e = .returned (.bool true) ∧ Below w.heap.size w w' := by
  have HK := Lib.hid hK
  have hkb : 0 < w.heap.size := hK.lt
  have HKB := Lib.hid hkb
  have HR := Lib.hid hr
  have HN := Lib.hid hn
  have HY := Lib.hid hy
  clear hK hr hn hy hkb
  go_enter Tryd.func6, Tryd.ntmps6
  go_wp2_with fail
  refine (new_calls _).mono ?_
  rintro e w1 ⟨g, rfl, hI1, hb1⟩
  have HI1 := Lib.hid hI1
  have HB1 := Lib.hid hb1
  have HG := Lib.hid (show w.heap.size ≤ g from hI1.1)
  clear hI1 hb1
  go_wp2_with fail
  go_loopw [4, 12] (fun v i wr => ∃ k : Nat, k ≤ n ∧ k ≤ 12 ∧ i = .int .i64 (k : Int) ∧ v = .string (strOfNums (yss.take k).flatten) ∧ Hid (IsH wr w.heap.size g (yss.take k).flatten ∧ Below w.heap.size w wr ∧ (yss.take k).flatten.length ≤ 90 * k)) (fun _ i _ => (n - (intOf i).toNat))
  case atStart => exact ⟨0, by omega, by omega, rfl, by rfl, Lib.hid ⟨HI1.out, HB1.out, by simp⟩⟩
  case round =>
    obtain ⟨k, hk, hk12, rfl, rfl, H⟩ := hrel
    obtain ⟨hI, hbl, hfl⟩ := H.out
    have HBL := Lib.hid hbl
    have HAW := Lib.hid (awake_calls wr (HK.out.below hbl (Nat.le_refl _)))
    by_cases hlt : k < n
    · have hklt : k < yss.length := by rw [HN.out]; exact hlt
      obtain ⟨ad, Ai, ci, hA, hcell, hci, hCi⟩ := C_text (by rw [HN.out]; exact HR.out) hklt
      subst hA
      have hadb := block_lt_of_cell hcell
      have hcell2 : wr.cell? (ad.add k) = some (.slice Ai (yss[k]).length ci) := (hbl.cell (p := ad.add k) hadb).trans hcell
      have hcell3 : wr.cell? (ad.add (k * 1)) = some (.slice Ai (yss[k]).length ci) := by rw [Nat.mul_one]; exact hcell2
      have hstep := flat_take hklt
      obtain ⟨ys, hys⟩ : ∃ ys, yss[k] = ys := ⟨_, rfl⟩
      rw [hys] at hcell2 hcell3 hci hCi hstep
      have hyb : ∀ x ∈ ys, 0 ≤ x ∧ x < 256 := HY.out ys (by rw [← hys]; exact List.getElem_mem hklt)
      obtain ⟨m, hmm⟩ : ∃ m, ys.length = m := ⟨_, rfl⟩
      rw [hmm] at hcell2 hcell3 hci
      by_cases h11 : 11 < k
      · have h11' : (11 : Int) < (k : Int) := by omega
        obtain ⟨T, hT⟩ : ∃ T, strOfNums (yss.take k).flatten = T := ⟨_, rfl⟩
        rw [hT]
        clear hk12 hI hbl hfl H hcell hadb hci hCi hstep hys hyb hmm hklt hT
        go_wp2_with fail
        refine HAW.out.mono ?_
        rintro e w2 ⟨rfl, hb2⟩
        have HB := Lib.hid (HBL.out.trans (Below.mono hb2 HBL.out.size))
        clear hb2 HAW
        go_wp2
        go_ret
        exact ⟨rfl, HB.out⟩
      · have h11' : ¬ ((11 : Int) < (k : Int)) := by omega
        have h11d : decide ((11 : Int) < (k : Int)) = false := decide_eq_false h11'
        by_cases h90 : 90 < m
        · have h90' : (90 : Int) < (m : Int) := by omega
          obtain ⟨T, hT⟩ : ∃ T, strOfNums (yss.take k).flatten = T := ⟨_, rfl⟩
          rw [hT]
          clear hk12 hI hbl hfl H hcell hadb hci hCi hstep hys hyb hmm hklt hT
          go_wp2_with fail
          refine HAW.out.mono ?_
          rintro e w2 ⟨rfl, hb2⟩
          have HB := Lib.hid (HBL.out.trans (Below.mono hb2 HBL.out.size))
          clear hb2 HAW
          go_wp2
          go_ret
          exact ⟨rfl, HB.out⟩
        · have h90' : ¬ ((90 : Int) < (m : Int)) := by omega
          have h90d : decide ((90 : Int) < (m : Int)) = false := decide_eq_false h90'
          have hfl2 : (yss.take (k + 1)).flatten.length ≤ 90 * (k + 1) := by rw [hstep, List.length_append, hmm]; omega
          have HW := Lib.hid (write_calls (w := wr) hI Ai ci m ys hmm (SrcRow.old hCi hbl HG.out) hci hyb (by omega) hbl.size (HK.out.below hbl (Nat.le_refl _)) HKB.out)
          rw [← hstep] at HW
          have hfb : ∀ x ∈ (yss.take (k + 1)).flatten, 0 ≤ x ∧ x < 256 := by
            intro x hx
            obtain ⟨zs, h1, h2⟩ := List.mem_flatten.1 hx
            exact HY.out zs (List.mem_of_mem_take h1) x h2
          have HCV := Lib.hid (show ∀ u : World, Below w.heap.size w u → (convert 27 9 (.slice Ai m ci)).run Tryd.prog u = .ok (.string (strOfNums ys)) u from fun u hu => by
            have h := Kd.C_string (P := Tryd.prog) (src := 27) (dst := 9) (c := ci) Tryd.underlying27 Tryd.underlying5 Tryd.underlying9 (Kd.C_below hCi hu)
            rwa [hmm] at h)
          have hstr : strOfNums (yss.take k).flatten ++ strOfNums ys = strOfNums (yss.take (k + 1)).flatten := by rw [hstep, str_app]
          have HRS := Lib.hid (fun W => rsum_calls (yss.take (k + 1)).flatten W (by omega) hfb)
          have q1 := eq32_same (sumP (yss.take (k + 1)).flatten) (sumP_len _)
          have hts : (strOfNums (yss.take (k + 1)).flatten).size = (yss.take (k + 1)).flatten.length := strOfNums_size _
          have HHS := Lib.hid (fun (V : World) (hV : IsH V w.heap.size g (yss.take (k + 1)).flatten) => hsum_calls (w := V) (B := w.heap.size) (g := g) hV (by omega) hfb)
          have HHL := Lib.hid (fun (V : World) (hV : IsH V w.heap.size g (yss.take (k + 1)).flatten) => hlen_calls hV)
          rw [← hstr] at HRS hts
          obtain ⟨R1, hR1⟩ : ∃ R, (nums .u8 (sumP (yss.take (k + 1)).flatten)).toArray = R := ⟨_, rfl⟩
          rw [hR1] at HRS HHS q1
          obtain ⟨L, hL⟩ : ∃ L, (yss.take (k + 1)).flatten.length = L := ⟨_, rfl⟩
          rw [hL] at hts HHL
          obtain ⟨Y, hY⟩ : ∃ T, strOfNums ys = T := ⟨_, rfl⟩
          rw [hY] at HCV HRS hts
          obtain ⟨T, hT⟩ : ∃ T, strOfNums (yss.take k).flatten = T := ⟨_, rfl⟩
          rw [hT] at HRS hts ⊢
          rw [hT, hY] at hstr
          have HSTR := Lib.hid hstr
          have HFL := Lib.hid hfl2
          have hL9 : L ≤ 9223372036854775807 := by omega
          have hL9' : (L : Int) ≤ 9223372036854775807 := by omega
          rw [ByteArray.size_append] at hts
          clear HAW hI hbl hfl H hcell hadb hci hCi hstep hys hyb hmm hklt hT hfb hfl2 hstr hR1 hL hY
          go_wp2_with fail
          refine HW.out.mono ?_
          rintro e w2 ⟨rfl, hI2, hb2, hk2⟩
          have HI2 := Lib.hid hI2
          have HB2 := Lib.hid (HBL.out.trans hb2)
          have c1 := HCV.out w2 (HBL.out.trans hb2)
          clear hI2 hb2 hk2 HW
          go_wp2_with fail
          refine (HHL.out w2 HI2.out).mono ?_
          rintro e w3 ⟨rfl, rfl⟩
          go_wp2_with fail
          refine (HHS.out _ HI2.out (HK.out.below HB2.out (Nat.le_refl _))).mono ?_
          rintro e w4 ⟨rfl, hb4⟩
          have HI4 := Lib.hid (HI2.out.below hb4)
          have HB4 := Lib.hid (HB2.out.trans (Below.mono hb4 HB2.out.size))
          clear hb4
          go_wp2_with fail
          refine (HRS.out _).mono ?_
          rintro e w5 ⟨rfl, hb5⟩
          have HI5 := Lib.hid (HI4.out.below hb5)
          have HB5 := Lib.hid (HB4.out.trans (Below.mono hb5 HB4.out.size))
          clear hb5 h11' h11d h90' h90d hcell2 hcell3
          go_wp2
          go_roundw
          case rel => exact ⟨k + 1, by omega, by omega, by go_num, by rw [HSTR.out], Lib.hid ⟨HI5.out, HB5.out, HFL.out⟩⟩
          case measure => simp only [intOf]; omega
    · obtain rfl : k = n := by omega
      have hfl2 : (yss.take k).flatten = yss.flatten := by rw [List.take_of_length_le (by rw [HN.out]; omega)]
      rw [hfl2] at hI hfl ⊢
      have hfb : ∀ x ∈ yss.flatten, 0 ≤ x ∧ x < 256 := by
        intro x hx
        obtain ⟨ys, h1, h2⟩ := List.mem_flatten.1 hx
        exact HY.out ys h1 x h2
      have HHS := Lib.hid (hsum_calls (w := wr) hI (by omega) hfb (HK.out.below hbl (Nat.le_refl _)))
      have HS2 := Lib.hid (show ∀ (V : World) (cap : Nat), Below w.heap.size w V → yss.flatten.length ≤ cap → Calls Tryd.prog 12 #[.slice (some ⟨(Lib.bytesWorld V 5 (strOfNums yss.flatten)).heap.size, 0, none⟩) 1 1] ((Lib.bytesWorld V 5 (strOfNums yss.flatten)).alloc (.cells #[.slice (some ⟨V.heap.size, 0, none⟩) yss.flatten.length cap] 27)) fun e w' => e = .returned (.agg (nums .u8 (sumP yss.flatten)).toArray) ∧ Below V.heap.size V w' from fun V cap hV hcap => by
        have hB1 := bytesW_below V (strOfNums yss.flatten)
        have hC := bytesW_C V hfb (by omega)
        have h := sums_calls (some ⟨(Lib.bytesWorld V 5 (strOfNums yss.flatten)).heap.size, 0, none⟩) 1 1 [yss.flatten] ((Lib.bytesWorld V 5 (strOfNums yss.flatten)).alloc (.cells #[.slice (some ⟨V.heap.size, 0, none⟩) yss.flatten.length cap] 27)) rfl (C_one (heap_alloc_new _ _) hcap (Kd.C_below hC (below_alloc (Below.refl _ _) _))) (by simpa using hfb) (by simp; simp at hfl; omega) (by decide) (HK.out.below (hV.trans (Below.mono (hB1.alloc hB1.size _) hV.size)) (Nat.le_refl _))
        rw [show [yss.flatten].flatten = yss.flatten by simp] at h
        refine h.mono ?_
        rintro e w' ⟨he, hb⟩
        exact ⟨he, (hB1.alloc hB1.size _).trans (Below.mono hb (hB1.alloc hB1.size _).size)⟩)
      have q1 := eq32_same (sumP yss.flatten) (sumP_len _)
      obtain ⟨R1, hR1⟩ : ∃ R, (nums .u8 (sumP yss.flatten)).toArray = R := ⟨_, rfl⟩
      rw [hR1] at HHS HS2 q1
      have kb := fun W => print_bytes (P := Tryd.prog) 9 27 5 Tryd.underlying9 Tryd.underlying27 Tryd.underlying5 (strOfNums yss.flatten) W
      simp only [strOfNums_size] at kb
      obtain ⟨N0, hN0⟩ : ∃ l, yss.flatten.length = l := ⟨_, rfl⟩
      rw [hN0] at kb HS2
      obtain ⟨T, hT⟩ : ∃ T, strOfNums yss.flatten = T := ⟨_, rfl⟩
      rw [hT] at kb HS2 ⊢
      clear hI hbl hfl H hfb hR1 hN0 hfl2 hlt hk hT HAW hk12
      go_wp2_with fail
      refine HHS.out.mono ?_
      rintro e w4 ⟨rfl, hb4⟩
      have HB4 := Lib.hid (HBL.out.trans (Below.mono hb4 HBL.out.size))
      clear hb4 HHS
      go_wp2_with fail
      refine (HS2.out w4 _ HB4.out (grownCap_ge _ _ _ _)).mono ?_
      rintro e w5 ⟨rfl, hb5⟩
      have HB5 := Lib.hid (HB4.out.trans (Below.mono hb5 HB4.out.size))
      clear hb5 kb
      go_wp2_with fail
      refine (awake_calls _ (HK.out.below HB5.out (Nat.le_refl _))).mono ?_
      rintro e w6 ⟨rfl, hb6⟩
      have HB6 := Lib.hid (HB5.out.trans (Below.mono hb6 HB5.out.size))
      clear hb6
      go_wp2
      go_ret
      exact ⟨rfl, HB6.out⟩
end Go.Proofs.YtacebcmgdcmmpaaDoor.Hand
