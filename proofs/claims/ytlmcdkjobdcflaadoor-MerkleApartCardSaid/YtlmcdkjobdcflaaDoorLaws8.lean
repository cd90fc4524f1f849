/- The laws MerkleRoots and MerkleDoubled: walked. -/
import Derived.Test.YtlmcdkjobdcflaaDoorProg
import Derived.Below
import Derived.Deep.Draws
import Derived.Deep.AppendLies
import Derived.Maps.AppendAt
import Derived.OwnWalk
import Derived.Laws.BytesArg
import Derived.Laws.MakeOwn
import Derived.Laws.OwnMore
import Derived.Deep.OwnRows
import Derived.Tactics
import Derived.Lib.ConvBytes
import Derived.Laws.Slices
import Derived.WalkKit
import Derived.KernelRfl
import Derived.RowKit3
import Derived.Deep.LoopGhost
import Derived.Deep.QuietTactic
import Derived.BigQuiet
import Derived.WideLaws
import Derived.Deep.DeepCutAuto
import Derived.Deep.CutBlock
import Derived.Deep.RegionHeld3
import Derived.Laws.Rows
import Derived.Lib.AppendStr
import Derived.ArgAppend
import Derived.Laws.IdiomCopy
import Derived.OrdersHeld
import Derived.Laws.BitsLemmas
import Derived.RowKit
import Derived.StillTailTactics
import Derived.Test.YtlmcdkjobdcflaaDoorWWords
import Derived.Test.YtlmcdkjobdcflaaDoorWLast
import Derived.Test.YtlmcdkjobdcflaaDoorWMore
import Derived.Lib.Hide
import Derived.Outline
import Derived.Test.YtlmcdkjobdcflaaDoorAwake8
namespace Go.Proofs.YtlmcdkjobdcflaaDoor.Hand
open Go Go.RowKit Go.Proofs.YtlmcdkjobdcflaaDoor.Plain Go.Proofs.YtlmcdkjobdcflaaDoor.PAll Go.Proofs.YtlmcdkjobdcflaaDoorW.PrintWords Go.Proofs.YtlmcdkjobdcflaaDoorW.PrintLast Go.Proofs.YtlmcdkjobdcflaaDoorW.PrintMore
set_option linter.unusedVariables false
set_option linter.unusedSimpArgs false
set_option maxRecDepth 100000
theorem Hs_of {w : World} {A : Option Addr} {xs : List (List Int)} (h : Kd.C kH w A xs.length xs) (ok : ∀ x ∈ xs, ∀ y ∈ x, (Lit.int .u8 y).wf = true) : Hs xs := by
  intro p hp
  obtain ⟨i, hi, rfl⟩ := List.mem_iff_getElem.1 hp
  obtain ⟨b, o, _, _, hrg⟩ := C_hash h (by omega)
  have h1 := (hrg i hi).2
  rw [rdH_eq hi] at h1
  exact ⟨h1, Plain.wf_u8s (ok _ (List.getElem_mem hi))⟩
set_option maxHeartbeats 2000000 in
theorem rootsl_calls (A : Option Addr) (n c : Nat) (xs : List (List Int)) (w : World) (hn : n = xs.length) (hr : Kd.C kH w A n xs) (hc : n ≤ c) (hH : Hs xs) (hK : KT w) :
    Calls Tryd.prog 3 #[.slice A n c] w fun e w' => e = .returned (.bool true) ∧ Below w.heap.size w w' := by
  have hm := Kd.C_max hr
  have HAW := Lib.hid (fun (u : World) (hu : Below w.heap.size w u) => awake8_calls u (hK.below hu (Nat.le_refl _)))
  by_cases hl : 20 < n
  · clear hn hr hH hK
    go_enter Tryd.func3, Tryd.ntmps3
    go_wp2_with fail
    refine (HAW.out _ (Below.refl _ _)).mono ?_
    rintro e w1 ⟨rfl, hb⟩
    go_wp2_with fail
    go_ret
    exact ⟨rfl, hb⟩
  · have HRO := Lib.hid (root_calls A n c xs w hn hr hc (by omega) hH hK)
    have HRF := Lib.hid (fun (u : World) (hu : Below w.heap.size w u) => refs_calls A n c xs u hn (Kd.C_below hr hu) hc (by omega) hH)
    have q0 := fun u => eqH (rootP xs) (rootP xs) (rootP_hash hH).1 (rootP_hash hH).1 u
    simp only [beq_self_eq_true] at q0
    have HRR := Lib.hid (fun (A2 : Option Addr) (c2 : Nat) (u : World) (hr2 : Kd.C kH u A2 xs.length xs) (hc2 : xs.length ≤ c2) => rroot_calls A2 xs.length c2 xs u rfl hr2 hc2 (by omega) hH)
    obtain ⟨R, hR⟩ : ∃ R, (nums .u8 (rootP xs)).toArray = R := ⟨_, rfl⟩
    rw [hR] at HRO HRR q0
    have hl2 : ¬ (20 : Int) < (n : Int) := by omega
    clear hn hr hH hK hR
    go_enter Tryd.func3, Tryd.ntmps3
    go_wp2_with fail
    refine HRO.out.mono ?_
    rintro e w1 ⟨rfl, hb1⟩
    have HB1 := Lib.hid hb1
    clear hb1
    go_wp2_with fail
    refine (HRF.out _ HB1.out).mono ?_
    rintro e w2 ⟨v, rfl, hv, hb2⟩
    obtain ⟨A2, c2, rfl, hc2, hC2⟩ := Kd.R_reads hv
    have HB2 := Lib.hid (HB1.out.trans (Below.mono hb2 HB1.out.size))
    have HR2 := Lib.hid (HRR.out A2 c2 w2 hC2 hc2)
    clear hv hb2 hc2 hC2
    obtain ⟨n2, hn2⟩ : ∃ n2, xs.length = n2 := ⟨_, rfl⟩
    rw [hn2] at HR2 ⊢
    clear hn2
    go_wp2_with fail
    refine HR2.out.mono ?_
    rintro e w3 ⟨rfl, hb3⟩
    have HB3 := Lib.hid (HB2.out.trans (Below.mono hb3 HB2.out.size))
    clear hb3 HRR
    go_wp2_with fail
    refine (HAW.out _ HB3.out).mono ?_
    rintro e w4 ⟨rfl, hb4⟩
    have HB4 := Lib.hid (HB3.out.trans (Below.mono hb4 HB3.out.size))
    clear hb4
    go_wp2_with fail
    go_ret
    exact ⟨rfl, HB4.out⟩
end Go.Proofs.YtlmcdkjobdcflaaDoor.Hand
