/- The law MerkleDoubled: walked. -/
import Derived.Test.YtlmcdkjobdcflaaDoorProg
import Derived.Below
import Derived.Deep.Draws
import Derived.Deep.AppendLies
import Derived.Maps.AppendAt
import Derived.OwnWalk
import Derived.Laws.BytesArg
import Derived.Laws.MakeOwn
import Derived.Laws.OwnMore
import Derived.Deep.OwnRows
import Derived.Tactics
import Derived.Lib.ConvBytes
import Derived.Laws.Slices
import Derived.WalkKit
import Derived.KernelRfl
import Derived.RowKit3
import Derived.Deep.LoopGhost
import Derived.Deep.QuietTactic
import Derived.BigQuiet
import Derived.WideLaws
import Derived.Deep.DeepCutAuto
import Derived.Deep.CutBlock
import Derived.Deep.RegionHeld3
import Derived.Laws.Rows
import Derived.Lib.AppendStr
import Derived.ArgAppend
import Derived.Laws.IdiomCopy
import Derived.OrdersHeld
import Derived.Laws.BitsLemmas
import Derived.RowKit
import Derived.StillTailTactics
import Derived.Test.YtlmcdkjobdcflaaDoorWWords
import Derived.Test.YtlmcdkjobdcflaaDoorWLast
import Derived.Test.YtlmcdkjobdcflaaDoorWMore
import Derived.Lib.Hide
import Derived.Outline
import Derived.Test.YtlmcdkjobdcflaaDoorLaws8
namespace Go.Proofs.YtlmcdkjobdcflaaDoor.Hand
open Go Go.RowKit Go.Proofs.YtlmcdkjobdcflaaDoor.Plain Go.Proofs.YtlmcdkjobdcflaaDoor.PAll Go.Proofs.YtlmcdkjobdcflaaDoorW.PrintWords Go.Proofs.YtlmcdkjobdcflaaDoorW.PrintLast Go.Proofs.YtlmcdkjobdcflaaDoorW.PrintMore
set_option linter.unusedVariables false
set_option linter.unusedSimpArgs false
set_option maxRecDepth 100000
set_option maxHeartbeats 2000000 in
theorem doubl_calls (A : Option Addr) (n c : Nat) (l : List Int) (w : World) (hn : n = l.length) (hr : Kd.C (Kd.int .u8) w A n l) (hc : n ≤ c) (hb : ∀ x ∈ l, 0 ≤ x ∧ x < 256) (hK : KT w) :
    Calls Tryd.prog 5 #[.slice A n c] w fun e w' => e = .returned (.bool true) ∧ Below w.heap.size w w' := by
  have HAW := Lib.hid (fun (u : World) (hu : Below w.heap.size w u) => awake8_calls u (hK.below hu (Nat.le_refl _)))
  have HFE := Lib.hid (few_calls A n c l w hn hr hc hb)
  have hH := fewP_Hs hb
  have hl : (fewP l).length ≤ 20 := by simp [fewP]; omega
  obtain ⟨xs, hxs⟩ : ∃ xs, fewP l = xs := ⟨_, rfl⟩
  rw [hxs] at HFE hH hl
  have HDO := Lib.hid (fun (A2 : Option Addr) (c2 : Nat) (u : World) (hr2 : Kd.C kH u A2 xs.length xs) (hc2 : xs.length ≤ c2) (hu : Below w.heap.size w u) => doubled_calls A2 xs.length c2 xs u rfl hr2 hc2 (by omega) hH (hK.below hu (Nat.le_refl _)))
  have HRF := Lib.hid (fun (A2 : Option Addr) (c2 : Nat) (u : World) (hr2 : Kd.C kH u A2 xs.length xs) (hc2 : xs.length ≤ c2) => refs_calls A2 xs.length c2 xs u rfl hr2 hc2 (by omega) hH)
  have HRD := Lib.hid (fun (A2 : Option Addr) (c2 : Nat) (u : World) (hr2 : Kd.C kH u A2 xs.length xs) (hc2 : xs.length ≤ c2) => rdoub_calls A2 xs.length c2 xs u rfl hr2 hc2 (by omega) hH)
  obtain ⟨D, hD⟩ : ∃ D, doubP xs = D := ⟨_, rfl⟩
  rw [hD] at HDO HRD
  clear hn hr hc hb hK hH hD hxs
  go_enter Tryd.func5, Tryd.ntmps5
  go_wp2_with fail
  refine HFE.out.mono ?_
  rintro e w1 ⟨v, rfl, hv, hb1⟩
  obtain ⟨A1, c1, rfl, hc1, hC1⟩ := Kd.R_reads hv
  have HB1 := Lib.hid hb1
  have HDO1 := Lib.hid (HDO.out A1 c1 w1 hC1 hc1 hb1)
  have HRF1 := Lib.hid (fun (u : World) (hu : Below w1.heap.size w1 u) => HRF.out A1 c1 u (Kd.C_below hC1 hu) hc1)
  clear hv hb1 hc1 hC1 HFE HDO HRF
  obtain ⟨n2, hn2⟩ : ∃ n2, xs.length = n2 := ⟨_, rfl⟩
  have HNN := Lib.hid hn2
  rw [hn2] at HDO1 HRF1 HRD ⊢
  clear hn2 hl
  go_wp2_with fail
  refine HDO1.out.mono ?_
  rintro e w2 ⟨rfl, hb2⟩
  have HB2 := Lib.hid (HB1.out.trans (Below.mono hb2 HB1.out.size))
  have HRF2 := Lib.hid (HRF1.out w2 hb2)
  clear hb2
  go_wp2_with fail
  refine HRF2.out.mono ?_
  rintro e w3 ⟨v, rfl, hv, hb3⟩
  obtain ⟨A3, c3, hv3, hc3, hC3⟩ := Kd.R_reads hv
  rw [HNN.out] at hv3 hc3 hC3
  subst hv3
  have HB3 := Lib.hid (HB2.out.trans (Below.mono hb3 HB2.out.size))
  have HRD3 := Lib.hid (HRD.out A3 c3 w3 hC3 hc3)
  clear hv hb3 hc3 hC3
  go_wp2_with fail
  refine HRD3.out.mono ?_
  rintro e w4 ⟨rfl, hb4⟩
  have HB4 := Lib.hid (HB3.out.trans (Below.mono hb4 HB3.out.size))
  clear hb4
  have hdd : (D == D) = true := by simp
  go_wp2_with fail
  refine (HAW.out _ HB4.out).mono ?_
  rintro e w5 ⟨rfl, hb5⟩
  have HB5 := Lib.hid (HB4.out.trans (Below.mono hb5 HB4.out.size))
  clear hb5
  go_wp2_with fail
  go_ret
  exact ⟨rfl, HB5.out⟩
end Go.Proofs.YtlmcdkjobdcflaaDoor.Hand
