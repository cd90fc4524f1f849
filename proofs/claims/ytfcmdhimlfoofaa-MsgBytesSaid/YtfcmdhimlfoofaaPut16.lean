/- A field is put: walked (hashes, Msg.put). -/
import Derived.Test.YtfcmdhimlfoofaaProg
import Derived.Below
import Derived.Deep.Draws
import Derived.Deep.AppendLies
import Derived.Maps.AppendAt
import Derived.OwnWalk
import Derived.Laws.BytesArg
import Derived.Laws.MakeOwn
import Derived.Laws.OwnMore
import Derived.Deep.OwnRows
import Derived.Tactics
import Derived.Lib.ConvBytes
import Derived.Laws.Slices
import Derived.WalkKit
import Derived.KernelRfl
import Derived.RowKit3
import Derived.Deep.LoopGhost
import Derived.Deep.QuietTactic
import Derived.BigQuiet
import Derived.WideLaws
import Derived.Deep.DeepCutAuto
import Derived.Deep.CutBlock
import Derived.Deep.RegionHeld3
import Derived.Laws.Rows
import Derived.Lib.AppendStr
import Derived.ArgAppend
import Derived.Laws.IdiomCopy
import Derived.OrdersHeld
import Derived.Laws.BitsLemmas
import Derived.RowKit
import Derived.StillTailTactics
import Derived.Test.YtfcmdhimlfoofaaWWords
import Derived.Test.YtfcmdhimlfoofaaWLast
import Derived.Test.YtfcmdhimlfoofaaWMore
import Derived.Lib.Hide
import Derived.Outline
import Derived.Deep.MidRow
import Derived.Deep.WholeRow
import Derived.Deep.DrawnRows
import Derived.Deep.RegionLaw
import Derived.Test.YtfcmdhimlfoofaaNone16
import Derived.Test.YtfcmdhimlfoofaaBytes
namespace Go.Proofs.Ytfcmdhimlfoofaa.Hand
open Go Go.RowKit Go.Proofs.Ytfcmdhimlfoofaa.Plain Go.Proofs.Ytfcmdhimlfoofaa.PAll Go.Proofs.YtfcmdhimlfoofaaW.PrintWords Go.Proofs.YtfcmdhimlfoofaaW.PrintLast Go.Proofs.YtfcmdhimlfoofaaW.PrintMore
set_option linter.unusedVariables false
set_option linter.unusedSimpArgs false
set_option maxRecDepth 100000
attribute [local go_sem ↓] Go.wp_at_zero Go.wp_at_succ
theorem takeH {xs : List (List Int)} {k : Int} (h0 : 0 ≤ k) (h1 : k < (xs.length : Int)) : (xs.take (k + 1).toNat).flatten = (xs.take k.toNat).flatten ++ rdH xs k.toNat := by
  have hk : k.toNat < xs.length := by omega
  rw [show (k + 1).toNat = k.toNat + 1 by omega, List.take_add_one, List.getElem?_eq_getElem hk, rdH_eq hk, List.flatten_append]
  simp
theorem C_of_range {w : World} {b o : Nat} {p : List Int} (h : w.rangeAt b o (nums .u8 p)) (hl : p.length ≤ 9223372036854775807) : Kd.C (Kd.int .u8) w (some ⟨b, o, none⟩) p.length p := by
  refine ⟨rfl, hl, fun _ => ⟨⟨b, o, none⟩, rfl, fun j x hj => ⟨[.int .u8 x], rfl, rfl, fun i u hu => ?_⟩⟩⟩
  cases i with
  | succ i => simp at hu
  | zero =>
    have : u = .int .u8 x := by simpa using hu.symm
    subst this
    show w.cell? ((⟨b, o, none⟩ : Addr).add (j * 1 + 0)) = _
    rw [Addr.add_mid, Nat.mul_one, Nat.add_zero]
    exact h j _ (by simp only [nums, List.getElem?_map, hj, Option.map_some])
theorem take32 {xs : List (List Int)} (h : ∀ p ∈ xs, p.length = 32) (j : Nat) : (xs.take j).flatten.length ≤ 32 * xs.length := by
  induction xs generalizing j with
  | nil => simp
  | cons x xs ih =>
    cases j with
    | zero => simp
    | succ j =>
      have h1 := h x (by simp)
      have h2 := ih (fun q hq => h q (by simp [hq])) j
      simp only [List.take_succ_cons, List.flatten_cons, List.length_append, List.length_cons]
      omega
/-- A slice in a block of its own. -/
theorem row_one {w : World} {k : Nat} {A : Option Addr} {p : List Int} {tt : TypeId} (h : Kd.C (Kd.int .u8) w A 32 p) (hp : p.length = 32) (hk : w.heap[k]? = some (.cells #[.slice A 32 32] tt (0, 0))) : Kd.C (Kd.slice 5 (Kd.int .u8)) w (some ⟨k, 0, none⟩) 1 [p] := by
  rw [← hp] at h hk
  exact C_row1 hk (Nat.le_refl _) h
set_option maxHeartbeats 4000000 in
theorem hashes_calls {w : World} {B g : Nat} {bs : List Int} (A : Option Addr) (n c : Nat) (xs : List (List Int)) (h : IsC w B g bs) (hn : n = xs.length) (hr : ∀ W : World, Below B w W → Kd.C kH W A n xs) (h32 : ∀ p ∈ xs, p.length = 32) (hc : n ≤ c) (hl : bs.length + 32 * n ≤ 900000) :
    Calls Try.prog 39 #[.pointer (some ⟨g, 0, none⟩), .slice A n c] w fun e w' => e = .returned (.tuple #[]) ∧ IsC w' B g (bs ++ hashesB xs) ∧ Below B w w' ∧ CKeep w w' g := by
  have HW := Lib.hid h
  have HR := Lib.hid hr
  have HN := Lib.hid hn
  have H32 := Lib.hid h32
  have HC := Lib.hid hc
  have HL := Lib.hid hl
  have hu : IntKind.u64.wrap (n : Int) = (n : Int) := u64w_id (by omega) (by omega)
  clear h hr hn h32 hc hl
  go_enter Try.func39, Try.ntmps39
  go_wp2_with fail
  refine (cvar_calls n HW.out (by have := HL.out; omega)).mono ?_
  rintro e w1 ⟨rfl, hw, hb, hk⟩
  have HW1 := Lib.hid hw
  have HB1 := Lib.hid hb
  have HK1 := Lib.hid hk
  clear hw hb hk hu
  go_wp2_with fail
  go_loopw [12] (fun i wr => ∃ k : Int, 0 ≤ k ∧ k ≤ (n : Int) ∧ i = .int .i64 k ∧ Hid (IsC wr B g (bs ++ varB n ++ (xs.take k.toNat).flatten) ∧ Below B w wr ∧ CKeep w wr g)) (fun i _ => ((n : Int) - intOf i).toNat)
  case atStart => exact ⟨0, by omega, by omega, rfl, Lib.hid ⟨by simpa using HW1.out, HB1.out, HK1.out⟩⟩
  case round =>
    obtain ⟨k, hk0, hkn, rfl, H⟩ := hrel
    by_cases hlt : k < (n : Int)
    · obtain ⟨hw, hb, hk⟩ := H.out
      have hcr := HR.out wr hb
      rw [HN.out] at hcr
      obtain ⟨b, o, rfl, hbl, hat⟩ := C_hash hcr (by have := HN.out; omega)
      have hkx : k < (xs.length : Int) := by have := HN.out; omega
      have hlen := take32 H32.out k.toNat
      have HPL := Lib.hid (hat k.toNat (by omega)).2
      have HTK := Lib.hid (takeH hk0 hkx)
      obtain ⟨p, hp⟩ : ∃ p, rdH xs k.toNat = p := ⟨_, rfl⟩
      have HRNG := Lib.hid (show ∀ W : World, Below wr.heap.size wr W → W.rangeAt b (o + k.toNat * 32) (nums .u8 p) from fun W hbw j v hj => by
        have h1 := (hat k.toNat (by omega)).1
        rw [hp] at h1
        exact pw_cell_below hbw (h1 j v hj))
      have HRNGB := Lib.hid (show ∀ W : World, Below B wr W → W.rangeAt b (o + k.toNat * 32) (nums .u8 p) from fun W hbw => by
        have h1 := HR.out W (hb.trans hbw)
        rw [HN.out] at h1
        obtain ⟨b', o', e, _, hat'⟩ := C_hash h1 (by omega)
        injection e with e
        injection e with e1 e2
        subst e1 e2
        have h2 := (hat' k.toNat (by omega)).1
        rwa [hp] at h2)
      rw [hp] at HPL HTK
      obtain ⟨off, hoff⟩ : ∃ x, o + k.toNat * 32 = x := ⟨_, rfl⟩
      rw [hoff] at HRNGB
      have HLEN := Lib.hid (show (bs ++ varB n ++ (xs.take k.toNat).flatten).length + 32 ≤ 1000000 by
        have := HL.out
        have := HN.out
        have := varB_length n
        simp only [List.length_append]
        omega)
      have wk : wrap64 (k + 1) = k + 1 := wrap64_id (by omega) (by have := HL.out; omega)
      have HLT := Lib.hid hlt
      obtain ⟨pre, hpre⟩ : ∃ x, bs ++ varB n ++ (xs.take k.toNat).flatten = x := ⟨_, rfl⟩
      have HPRE := Lib.hid hpre
      rw [hpre] at hw HLEN
      have HWA := Lib.hid (hw.alloc (.cells #[.slice (some ⟨b, off, none⟩) 32 32] 23))
      have HBA := Lib.hid (show Below B wr (wr.alloc (.cells #[.slice (some ⟨b, off, none⟩) 32 32] 23)) from (Below.refl _ _).alloc (by have := hw.1; have := hw.lt; omega) _)
      have HNEW := Lib.hid (show (wr.alloc (.cells #[.slice (some ⟨b, off, none⟩) 32 32] 23)).heap[wr.heap.size]? = some (.cells #[.slice (some ⟨b, off, none⟩) 32 32] 23 (0, 0)) by simpa using heap_alloc_new wr _)
      have HGL := Lib.hid hw.lt
      have HB := Lib.hid hb
      have HK := Lib.hid (hk.below HW.out.lt (below_alloc (Below.refl _ _) (.cells #[.slice (some ⟨b, off, none⟩) 32 32] 23)))
      clear hw hb hk hcr hbl hat hp HRNG hpre H hkx hlen
      go_wp2_with fail
      clear hoff
      refine (cput_calls (some ⟨wr.heap.size, 0, none⟩) 1 [p] HWA.out (fun W' hb' hk' => ?_) (by simp) (by have := HLEN.out; simp [HPL.out]; omega)).mono ?_
      · have h1 := C_of_range (HRNGB.out W' (HBA.out.trans hb')) (by have := HPL.out; omega)
        rw [HPL.out] at h1
        exact row_one h1 HPL.out (hk'.blk (by have := HGL.out; omega) (HWA.out.row HNEW.out (by decide)) HNEW.out)
      rintro e w2 ⟨rfl, hw2, hb2, hk2⟩
      have HW2 := Lib.hid (show IsC w2 B g (bs ++ varB n ++ (xs.take (k + 1).toNat).flatten) by rw [HTK.out, ← List.append_assoc, HPRE.out]; simpa using hw2)
      have HB2 := Lib.hid (HB.out.trans (HBA.out.trans hb2))
      have HK2 := Lib.hid (HK.out.trans hk2)
      clear hw2 hb2 hk2 HWA HBA HNEW
      go_wp2
      go_roundw
      case rel => exact ⟨k + 1, by omega, by have := HLT.out; omega, by rw [wk], Lib.hid ⟨HW2.out, HB2.out, HK2.out⟩⟩
      case measure => simp [intOf]; have := HLT.out; omega
    · obtain ⟨hw, hb, hk⟩ := H.out
      have hkx : k.toNat = xs.length := by have := HN.out; omega
      rw [hkx, List.take_length, HN.out, List.append_assoc] at hw
      have HW2 : Hid (IsC wr B g (bs ++ hashesB xs)) := Lib.hid hw
      have HB2 := Lib.hid hb
      have HK2 := Lib.hid hk
      clear hw hb hk hkx H
      go_wp2_with fail
      go_end0
      exact ⟨rfl, HW2.out, HB2.out, HK2.out⟩
end Go.Proofs.Ytfcmdhimlfoofaa.Hand
