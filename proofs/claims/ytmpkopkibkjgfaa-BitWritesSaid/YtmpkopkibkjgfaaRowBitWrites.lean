/- BitWrites: whatever is put, the bits are what the document says: for every list of parts. -/
import Derived.Test.YtmpkopkibkjgfaaRows
import Derived.Test.YtmpkopkibkjgfaaBitWritesLaw
import Derived.Test.YtmpkopkibkjgfaaOpens
import Derived.WalkKit
import Derived.ProofKit
import Derived.OpenShut
import Derived.ShutString
import Derived.ChangeOld
import Derived.Below
import Derived.SizedLaws
namespace Go.Proofs.Ytmpkopkibkjgfaa.bitWrites
open Go.ChangeShapes Go.WideShapes Go.ChangeAt Go.RowKit
open Go.ChangeMaps (open_string shut_string)
open Go.Proofs.Ytmpkopkibkjgfaa.Opens Go.Proofs.YtmpkopkibkjgfaaW.PrintWords
set_option linter.unusedVariables false
theorem own : ownKnob Try.prog.godebug = none := by kernel_rfl
theorem laidOut : laidOutB Try.prog = true := by kernel_rfl
theorem opnOps : Opn Try.prog 22 (Kd.slice 27 Hand.kOp) (fun xs => ∀ x ∈ xs, True ∧ (Lit.int .u64 x.2.1).wf = true ∧ (Lit.int .i64 x.2.2).wf = true) :=
  Opn.slice Try.underlying22 (by kernel_rfl) (Opn.struct Try.underlying27 (by kernel_rfl)
    (OpnF.cons rfl (Opn.bool Try.underlying4 (by kernel_rfl)) (OpnF.cons rfl (Opn.int Try.underlying25 (by kernel_rfl)) (OpnF.one rfl (Opn.int Try.underlying3 (by kernel_rfl))))))
set_option maxRecDepth 100000 in
theorem lifted (os : Os) (started : os.Started) (H : Type) (enc : TypeId × Value → H) :
    ReturnsInHanded {} Try.checked os 3 .any (Rows.bitWritesSpec.pre6 enc Try.prog Try.f3 Rows.bitWritesRow.domain false) (Rows.bitWritesSpec.post enc Try.prog Try.f3 false true false false) := by
  refine returnsInHanded_of_change_sized (C := Try.checked) own started (by kernel_rfl) Try.func3
    (ChangeSpec.witness6 (enc := enc) (C := Try.checked) false ⟨#[], #[.slice none 0 0], []⟩ 8 (by kernel_rfl) (by kernel_rfl) (by kernel_rfl) (by kernel_rfl)) ?_
  intro W base args ds gs before hval0 hW hcnd hsz0 _
  have hsz : (DataW.weightsEach Try.prog (Try.f3.params.toList ++ Rows.bitWritesSpec.plain.varTypes Try.prog) (ds ++ gs)).all (· ≤ reachBytes) = true := hsz0
  have hval : ∀ (j : Nat) t v, Try.f3.params[j]? = some t → args[j]? = some v → Value.okWide Try.prog W .any base t v := hval0
  have hW' := hW
  obtain ⟨p, q, hA0, hV, rfl, hfz, hnd⟩ := hW
  have hA : DataW.TrodAll enc Try.prog W 0 (fun _ => true) true Try.f3.params.toList args.toList ds p := hA0
  rw [Try.params3] at hA hval hsz
  obtain ⟨v0, vs0, d0, ds0, p0, q0, hargs, rfl, rfl, h0, r0⟩ := trodAll_cons hA
  obtain ⟨rfl, rfl, rfl⟩ := trodAll_nil r0
  obtain rfl : args = #[v0] := by cases args; simp_all
  obtain ⟨rfl, rfl⟩ := trodVars_none hV
  obtain ⟨a0, len0, cap0, rfl⟩ := okWide_slice Try.underlying22 (hval 0 22 v0 rfl rfl)
  have k0 := h0
  have lt0 : ∀ x ∈ p0, x.block < W.heap.size := by obtain ⟨m, hm⟩ := k0; exact DataW.trod_lt m _ _ _ hm
  obtain ⟨xs, rfl, hc, hC, hok⟩ := Opn.param opnOps h0
  clear hA0 hval0 hsz0 hsz
  refine (Hand.writes_calls a0 cap0 xs W hC hc hC.2.1 (fun x hx => (hok x hx).2.1)).mono fun e W' ⟨he, bel⟩ => ?_
  subst he
  exact ⟨_, rfl, _, _, _, [], _, [], hW', trodAll_mk1 (shut_bool Try.underlying4 _), (trodAll_cons_mk (Below.trod laidOut (by kernel_rfl) (of_decide_eq_true (by kernel_rfl)) k0 bel lt0) trodAll_mk0), rfl, bel.frame _, fun h => by cases h⟩
theorem over : Rows.bitWritesRow.holds Try.pinned (OpenSpec.ofChange Rows.bitWritesSpec) :=
  OpenClaim.holds_of_wide 3 Try.f3 rfl rfl rfl rfl rfl rfl rfl ⟨rfl, rfl, rfl, rfl, rfl⟩ rfl rfl rfl rfl rfl (by kernel_rfl) Try.func3 (by kernel_rfl)
    (of_decide_eq_true (by kernel_rfl)) (by unfold Func.isWrapper; first | (rw [if_pos (by decide +kernel)]; kernel_rfl) | (rw [if_neg (by decide +kernel)]; exact ⟨rfl, rfl⟩))
    (fun os started H enc _ => lifted os started H enc)
theorem proved : Rows.BitWritesSaid := over
#print axioms proved
end Go.Proofs.Ytmpkopkibkjgfaa.bitWrites
namespace Go.Proofs.Ytmpkopkibkjgfaa
/-- The row, under a short name, for the claim. -/
theorem bitWrites_holds : Rows.BitWritesSaid := bitWrites.proved
end Go.Proofs.Ytmpkopkibkjgfaa
