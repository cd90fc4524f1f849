/- The law ClashInner returns true for every list of texts. -/
import Derived.Test.YtlmcdkjobdcflaaDoorRows
import Derived.Test.YtlmcdkjobdcflaaDoorClNC
import Derived.Test.YtlmcdkjobdcflaaDoorOpens
import Derived.Test.YtlmcdkjobdcflaaDoorWSized
import Derived.Test.YtlmcdkjobdcflaaDoorLaidK
import Derived.Test.YtlmcdkjobdcflaaDoorCards
import Derived.Test.YtlmcdkjobdcflaaDoorTie
import Derived.SevenTiedAt
import Derived.LaidMore
import Derived.Stop.Joined
import Derived.Handed
import Derived.WalkKit
import Derived.ProofKit
import Derived.OpenShut
import Derived.ShutString
import Derived.ChangeOld
import Derived.Below
import Derived.SizedLaws
namespace Go.Proofs.YtlmcdkjobdcflaaDoor.clashInner
open Go.ChangeShapes Go.WideShapes Go.ChangeAt Go.RowKit
open Go.ChangeMaps (open_string shut_string)
open Go.Proofs.YtlmcdkjobdcflaaDoor.Opens Go.Proofs.YtlmcdkjobdcflaaDoorW.PrintWords
set_option linter.unusedVariables false
theorem own : ownKnob Tryd.prog.godebug = none := by kernel_rfl
theorem laidOut : laidOutB Tryd.prog = true := by kernel_rfl
set_option maxRecDepth 100000 in
theorem lifted (os : Os) (started : os.Started) (H : Type) (enc : TypeId × Value → H) :
    ReturnsInHanded {} Tryd.checked os 18 .any (fun w args => (Rows.clashInnerSpec.pre enc Tryd.prog Tryd.f18 [] false w args ∧ laidMetH Tryd.prog laidK w) ∧ sizedMet enc Tryd.prog Tryd.f18 (OpenSpec.ofChange Rows.clashInnerSpec) false w args) (Rows.clashInnerSpec.post enc Tryd.prog Tryd.f18 false true false false) := by
  refine returnsInHanded_of_change_and (C := Tryd.checked) (X := fun w _ => laidMetH Tryd.prog laidK w) (fun _ _ _ hh h => h.of_heap hh) own started (by kernel_rfl) Tryd.func18
    (ChangeSpec.witness_shaped (enc := enc) (C := Tryd.checked) (os := os) (X := fun w _ => laidMetH Tryd.prog laidK w) false (World.doorLaid Tryd.prog 400 os) #[.slice none 0 0] 8 rfl (World.shaped_of_RefB (by kernel_rfl) (by kernel_rfl)) (by kernel_rfl) (by kernel_rfl) (by kernel_rfl) (door_met os _)) ?_
  intro W base args ds gs before hval0 hW hcnd hsz0 hL _
  have KTW : Hand.KT W := laid_KT hL
  have hsz : (DataW.weightsEach Tryd.prog (Tryd.f18.params.toList ++ Rows.clashInnerSpec.plain.varTypes Tryd.prog) (ds ++ gs)).all (· ≤ reachBytes) = true := hsz0
  have hval : ∀ (j : Nat) t v, Tryd.f18.params[j]? = some t → args[j]? = some v → Value.okWide Tryd.prog W .any base t v := hval0
  have hW' := hW
  obtain ⟨p, q, hA0, hV, rfl, hfz, hnd⟩ := hW
  have hA : DataW.TrodAll enc Tryd.prog W 0 (fun _ => true) true Tryd.f18.params.toList args.toList ds p := hA0
  rw [Tryd.params18] at hA hval hsz
  obtain ⟨v0, vs0, d0, ds0, p0, q0, hargs, rfl, rfl, h0, r0⟩ := trodAll_cons hA
  obtain ⟨rfl, rfl, rfl⟩ := trodAll_nil r0
  obtain rfl : args = #[v0] := by cases args; simp_all
  obtain ⟨rfl, rfl⟩ := trodVars_none hV
  obtain ⟨A_0, n_0, c_0, rfl⟩ := okWide_slice Tryd.underlying62 (hval 0 62 v0 rfl rfl)
  have k0 := h0
  have lt0 : ∀ x ∈ p0, x.block < W.heap.size := by obtain ⟨m, hm⟩ := k0; exact DataW.trod_lt m _ _ _ hm
  obtain ⟨x_0, rfl, hc_0, C_0, ok_0⟩ := Opn.param (Opn.slice Tryd.underlying62 (by kernel_rfl) (Opn.slice Tryd.underlying33 (by kernel_rfl) (Opn.int Tryd.underlying5 (by kernel_rfl)))) h0
  clear hA0 hval0 hsz0 hsz
  refine (Hand.inner10_calls A_0 _ c_0 x_0 W rfl C_0 (fun ys h => Plain.wf_u8s (ok_0 ys h)) KTW).mono fun e W' ⟨he, bel⟩ => ?_
  subst he
  exact ⟨_, rfl, _, _, _, [], _, [], hW', trodAll_mk1 (shut_bool Tryd.underlying4 _), (trodAll_cons_mk (Below.trod laidOut (by kernel_rfl) (of_decide_eq_true (by kernel_rfl)) k0 bel lt0) trodAll_mk0), rfl, bel.frame _, fun h => by cases h⟩
theorem over : Rows.clashInnerRow.holds Tryd.pinned (OpenSpec.ofChange Rows.clashInnerSpec) :=
  OpenClaim.holds_of_wide 18 Tryd.f18 rfl rfl rfl rfl rfl rfl rfl ⟨rfl, rfl, rfl, rfl, rfl⟩ rfl rfl rfl rfl rfl (by kernel_rfl) Tryd.func18 (by kernel_rfl)
    (of_decide_eq_true (by kernel_rfl)) (by unfold Func.isWrapper; first | (rw [if_pos (by decide +kernel)]; kernel_rfl) | (rw [if_neg (by decide +kernel)]; exact ⟨rfl, rfl⟩))
    (fun os started H enc _ => lifted os started H enc)
theorem proved : Rows.ClashInnerSaid := over
#print axioms proved
end Go.Proofs.YtlmcdkjobdcflaaDoor.clashInner
namespace Go.Proofs.YtlmcdkjobdcflaaDoor
/-- The row, under a short name. -/
theorem clashInner_holds : Rows.ClashInnerSaid := clashInner.proved
/-- The card: the law's row, its listed variable tied to the program's text. -/
theorem clashInner_card : Rows.ClashInnerCardSaid :=
  Claim7.holds_tied_plain_at .later [] [.data] true (true, "edaf2d63ed6b46e14bcee5fe5ace8e9af498e7c1868947ab19ffb1a082685625") false
    clashInner_holds (fun _ h => by cases h) (by kernel_rfl) (fun _ h => by cases h) clashInner_row_tie rfl ⟨rfl, rfl⟩ (by kernel_rfl) rfl
    (fun f fn hf hfn => by
      obtain rfl : f = 18 := Option.some.inj ((show Tryd.prog.funcNamed "masthead/mastheadlaw10.ClashInner" = some 18 by kernel_rfl).symm.trans hf) |>.symm
      obtain rfl : fn = Tryd.f18 := (Option.some.inj (Tryd.func18.symm.trans hfn)).symm
      exact ⟨by kernel_rfl, fun j t ht => by
        rw [Tryd.params18] at ht
        have hm : t ∈ [62] := by simpa using Array.mem_of_getElem? ht
        have hall : ([62].all fun u => !Tryd.prog.wantsStandIn u) = true := by kernel_rfl
        exact (show Tryd.prog.wantsStandIn t = false by simpa using List.all_eq_true.1 hall t hm)⟩)
    (by kernel_rfl)
#print axioms clashInner_card
end Go.Proofs.YtlmcdkjobdcflaaDoor
