/- RiceGets: every number got agrees with the reference. -/
import Derived.Test.YtakpohcobpbjkaaRows
import Derived.Test.YtakpohcobpbjkaaRiceGetsLaw
import Derived.Test.YtakpohcobpbjkaaOpens
import Derived.Test.YtakpohcobpbjkaaWSized
import Derived.WalkKit
import Derived.ProofKit
import Derived.OpenShut
import Derived.ShutString
import Derived.ChangeOld
import Derived.Below
import Derived.SizedLaws
namespace Go.Proofs.Ytakpohcobpbjkaa.riceGets
open Go.ChangeShapes Go.WideShapes Go.ChangeAt Go.RowKit
open Go.ChangeMaps (open_string shut_string)
open Go.Proofs.Ytakpohcobpbjkaa.Opens Go.Proofs.YtakpohcobpbjkaaW.PrintWords
set_option linter.unusedVariables false
theorem own : ownKnob Try.prog.godebug = none := by kernel_rfl
theorem laidOut : laidOutB Try.prog = true := by kernel_rfl
set_option maxRecDepth 100000 in
theorem lifted (os : Os) (started : os.Started) (H : Type) (enc : TypeId × Value → H) :
    ReturnsInHanded {} Try.checked os 6 .any (Rows.riceGetsSpec.pre6 enc Try.prog Try.f6 Rows.riceGetsRow.domain false) (Rows.riceGetsSpec.post enc Try.prog Try.f6 false true false false) := by
  refine returnsInHanded_of_change_sized (C := Try.checked) own started (by kernel_rfl) Try.func6
    (ChangeSpec.witness6 (enc := enc) (C := Try.checked) false ⟨#[], #[.slice none 0 0, .int .i64 0, .slice none 0 0], []⟩ 8 (by kernel_rfl) (by kernel_rfl) (by kernel_rfl) (by kernel_rfl)) ?_
  intro W base args ds gs before hval0 hW hcnd hsz0 _
  have hsz : (DataW.weightsEach Try.prog (Try.f6.params.toList ++ Rows.riceGetsSpec.plain.varTypes Try.prog) (ds ++ gs)).all (· ≤ reachBytes) = true := hsz0
  have hval : ∀ (j : Nat) t v, Try.f6.params[j]? = some t → args[j]? = some v → Value.okWide Try.prog W .any base t v := hval0
  have hW' := hW
  obtain ⟨p, q, hA0, hV, rfl, hfz, hnd⟩ := hW
  have hA : DataW.TrodAll enc Try.prog W 0 (fun _ => true) true Try.f6.params.toList args.toList ds p := hA0
  rw [Try.params6] at hA hval hsz
  obtain ⟨v0, vs0, d0, ds0, p0, q0, hargs, rfl, rfl, h0, r0⟩ := trodAll_cons hA
  obtain ⟨v1, vs1, d1, ds1, p1, q1, rfl, rfl, rfl, h1, r1⟩ := trodAll_cons r0
  obtain ⟨v2, vs2, d2, ds2, p2, q2, rfl, rfl, rfl, h2, r2⟩ := trodAll_cons r1
  obtain ⟨rfl, rfl, rfl⟩ := trodAll_nil r2
  obtain rfl : args = #[v0, v1, v2] := by cases args; simp_all
  obtain ⟨rfl, rfl⟩ := trodVars_none hV
  obtain ⟨A_0, n_0, c_0, rfl⟩ := okWide_slice Try.underlying34 (hval 0 34 v0 rfl rfl)
  have k0 := h0
  have lt0 : ∀ x ∈ p0, x.block < W.heap.size := by obtain ⟨m, hm⟩ := k0; exact DataW.trod_lt m _ _ _ hm
  have y_0 : n_0 * 1 ≤ 140737488351232 := Go.Proofs.YtakpohcobpbjkaaW.PrintWords.sized_ints hsz (j := 0) (t := 34) rfl rfl Try.underlying34 Try.underlying5 (by kernel_rfl) (by kernel_rfl) h0
  obtain ⟨x_0, rfl, hc_0, C_0, ok_0⟩ := Opn.param (Opn.slice Try.underlying34 (by kernel_rfl) (Opn.int Try.underlying5 (by kernel_rfl))) h0
  obtain ⟨a_1, rfl, rfl, rfl, w_1⟩ := open_int Try.underlying3 (hval 1 3 v1 rfl rfl) h1
  obtain ⟨A_2, n_2, c_2, rfl⟩ := okWide_slice Try.underlying43 (hval 2 43 v2 rfl rfl)
  have k2 := h2
  have lt2 : ∀ x ∈ p2, x.block < W.heap.size := by obtain ⟨m, hm⟩ := k2; exact DataW.trod_lt m _ _ _ hm
  have y_2 : n_2 * 8 ≤ 140737488351232 := Go.Proofs.YtakpohcobpbjkaaW.PrintWords.sized_ints hsz (j := 2) (t := 43) rfl rfl Try.underlying43 Try.underlying3 (by kernel_rfl) (by kernel_rfl) h2
  obtain ⟨x_2, rfl, hc_2, C_2, ok_2⟩ := Opn.param (Opn.slice Try.underlying43 (by kernel_rfl) (Opn.int Try.underlying3 (by kernel_rfl))) h2
  clear hA0 hval0 hsz0 hsz
  refine (Hand.gets_calls A_0 c_0 x_0 a_1 A_2 c_2 x_2 W C_0 hc_0 (by omega) (Plain.wf_u8s ok_0) C_2 C_2.2.1).mono fun e W' ⟨he, bel⟩ => ?_
  subst he
  exact ⟨_, rfl, _, _, _, [], _, [], hW', trodAll_mk1 (shut_bool Try.underlying4 _), (trodAll_cons_mk (Below.trod laidOut (by kernel_rfl) (of_decide_eq_true (by kernel_rfl)) k0 bel lt0) (trodAll_cons_mk (shut_int Try.underlying3 w_1) (trodAll_cons_mk (Below.trod laidOut (by kernel_rfl) (of_decide_eq_true (by kernel_rfl)) k2 bel lt2) trodAll_mk0))), rfl, bel.frame _, fun h => by cases h⟩
theorem over : Rows.riceGetsRow.holds Try.pinned (OpenSpec.ofChange Rows.riceGetsSpec) :=
  OpenClaim.holds_of_wide 6 Try.f6 rfl rfl rfl rfl rfl rfl rfl ⟨rfl, rfl, rfl, rfl, rfl⟩ rfl rfl rfl rfl rfl (by kernel_rfl) Try.func6 (by kernel_rfl)
    (of_decide_eq_true (by kernel_rfl)) (by unfold Func.isWrapper; first | (rw [if_pos (by decide +kernel)]; kernel_rfl) | (rw [if_neg (by decide +kernel)]; exact ⟨rfl, rfl⟩))
    (fun os started H enc _ => lifted os started H enc)
theorem proved : Rows.RiceGetsSaid := over
#print axioms proved
end Go.Proofs.Ytakpohcobpbjkaa.riceGets
namespace Go.Proofs.Ytakpohcobpbjkaa
/-- The row, under a short name, for the claim. -/
theorem riceGets_holds : Rows.RiceGetsSaid := riceGets.proved
end Go.Proofs.Ytakpohcobpbjkaa
