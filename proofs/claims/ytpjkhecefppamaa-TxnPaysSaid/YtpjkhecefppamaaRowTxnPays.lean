/- TxnPays: to which items any transaction pays, and how much together, is what the document says, for every transaction and item. -/
import Derived.Test.YtpjkhecefppamaaRows
import Derived.Test.YtpjkhecefppamaaPays
import Derived.Test.YtpjkhecefppamaaOpens2
import Derived.Test.YtpjkhecefppamaaWSized
import Derived.Test.YtpjkhecefppamaaTxOpen
import Derived.WalkKit
import Derived.ProofKit
import Derived.OpenShut
import Derived.ShutString
import Derived.ChangeOld
import Derived.Below
import Derived.SizedLaws
namespace Go.Proofs.Ytpjkhecefppamaa.txnPays
open Go.ChangeShapes Go.WideShapes Go.ChangeAt Go.RowKit
open Go.ChangeMaps (open_string shut_string)
open Go.Proofs.Ytpjkhecefppamaa.Opens Go.Proofs.YtpjkhecefppamaaW.PrintWords
set_option linter.unusedVariables false
theorem own : ownKnob Try.prog.godebug = none := by kernel_rfl
theorem laidOut : laidOutB Try.prog = true := by kernel_rfl
set_option maxRecDepth 100000 in
theorem lifted (os : Os) (started : os.Started) (H : Type) (enc : TypeId × Value → H) :
    ReturnsInHanded {} Try.checked os 3 .any (Rows.txnPaysSpec.pre6 enc Try.prog Try.f3 Rows.txnPaysRow.domain false) (Rows.txnPaysSpec.post enc Try.prog Try.f3 false true false false) := by
  refine returnsInHanded_of_change_sized (C := Try.checked) own started (by kernel_rfl) Try.func3
    (ChangeSpec.witness6 (enc := enc) (C := Try.checked) false ⟨#[], #[.agg #[.int .u64 0, .slice none 0 0], .slice none 0 0], []⟩ 8 (by kernel_rfl) (by kernel_rfl) (by kernel_rfl) (by kernel_rfl)) ?_
  intro W base args ds gs before hval0 hW hcnd hsz0 _
  have hsz : (DataW.weightsEach Try.prog (Try.f3.params.toList ++ Rows.txnPaysSpec.plain.varTypes Try.prog) (ds ++ gs)).all (· ≤ reachBytes) = true := hsz0
  have hval : ∀ (j : Nat) t v, Try.f3.params[j]? = some t → args[j]? = some v → Value.okWide Try.prog W .any base t v := hval0
  have hW' := hW
  obtain ⟨p, q, hA0, hV, rfl, hfz, hnd⟩ := hW
  have hA : DataW.TrodAll enc Try.prog W 0 (fun _ => true) true Try.f3.params.toList args.toList ds p := hA0
  rw [Try.params3] at hA hval hsz
  obtain ⟨v0, vs0, d0, ds0, p0, q0, hargs, rfl, rfl, h0, r0⟩ := trodAll_cons hA
  obtain ⟨v1, vs1, d1, ds1, p1, q1, rfl, rfl, rfl, h1, r1⟩ := trodAll_cons r0
  obtain ⟨rfl, rfl, rfl⟩ := trodAll_nil r1
  obtain rfl : args = #[v0, v1] := by cases args; simp_all
  obtain ⟨rfl, rfl⟩ := trodVars_none hV
  obtain ⟨cs_0, rfl, sz_0⟩ := okWide_structs Try.underlying25 (hval 0 25 v0 rfl rfl)
  have k0 := h0
  have lt0 : ∀ x ∈ p0, x.block < W.heap.size := by obtain ⟨m, hm⟩ := k0; exact DataW.trod_lt m _ _ _ hm
  obtain ⟨x_0, K_0, ok_0⟩ := Opn.agg (Opn.struct Try.underlying25 (by kernel_rfl) (OpnF.cons rfl (Opn.int Try.underlying22 (by kernel_rfl)) (OpnF.one rfl (Opn.slice Try.underlying23 (by kernel_rfl) (Opn.struct Try.underlying54 (by kernel_rfl) (OpnF.cons rfl (Opn.int Try.underlying22 (by kernel_rfl)) (OpnF.one rfl (Opn.slice Try.underlying26 (by kernel_rfl) (Opn.int Try.underlying5 (by kernel_rfl)))))))))) h0
  obtain ⟨A_1, n_1, c_1, rfl⟩ := okWide_slice Try.underlying26 (hval 1 26 v1 rfl rfl)
  have k1 := h1
  have lt1 : ∀ x ∈ p1, x.block < W.heap.size := by obtain ⟨m, hm⟩ := k1; exact DataW.trod_lt m _ _ _ hm
  have y_1 : n_1 * 1 ≤ 140737488351232 := Go.Proofs.YtpjkhecefppamaaW.PrintWords.sized_ints hsz (j := 1) (t := 26) rfl rfl Try.underlying26 Try.underlying5 (by kernel_rfl) (by kernel_rfl) h1
  obtain ⟨x_1, rfl, hc_1, C_1, ok_1⟩ := Opn.param (Opn.slice Try.underlying26 (by kernel_rfl) (Opn.int Try.underlying5 (by kernel_rfl))) h1
  clear hA0 hval0 hsz0 hsz
  obtain ⟨A0, c0, e0, hc0, C0⟩ := Hand.K_tx K_0
  subst e0
  have hv0 : ∀ o ∈ x_0.2.map Hand.outOf, 0 ≤ o.f0 ∧ o.f0 < 18446744073709551616 := fun o ho => by (obtain ⟨y, hy, rfl⟩ := List.mem_map.mp ho; obtain ⟨m, hm, hw⟩ := Plain.wf_u64 (ok_0.2 y hy).1; show 0 ≤ y.1 ∧ y.1 < 18446744073709551616; omega)
  refine (Hand.pays_calls x_0.1 A0 c0 _ A_1 c_1 x_1 W C0 hc0 hv0 C_1 hc_1).mono fun e W' ⟨he, bel⟩ => ?_
  subst he
  exact ⟨_, rfl, _, _, _, [], _, [], hW', trodAll_mk1 (shut_bool Try.underlying4 _), (trodAll_cons_mk (Below.trod laidOut (by kernel_rfl) (of_decide_eq_true (by kernel_rfl)) k0 bel lt0) (trodAll_cons_mk (Below.trod laidOut (by kernel_rfl) (of_decide_eq_true (by kernel_rfl)) k1 bel lt1) trodAll_mk0)), rfl, bel.frame _, fun h => by cases h⟩
theorem over : Rows.txnPaysRow.holds Try.pinned (OpenSpec.ofChange Rows.txnPaysSpec) :=
  OpenClaim.holds_of_wide 3 Try.f3 rfl rfl rfl rfl rfl rfl rfl ⟨rfl, rfl, rfl, rfl, rfl⟩ rfl rfl rfl rfl rfl (by kernel_rfl) Try.func3 (by kernel_rfl)
    (of_decide_eq_true (by kernel_rfl)) (by unfold Func.isWrapper; first | (rw [if_pos (by decide +kernel)]; kernel_rfl) | (rw [if_neg (by decide +kernel)]; exact ⟨rfl, rfl⟩))
    (fun os started H enc _ => lifted os started H enc)
theorem proved : Rows.TxnPaysSaid := over
#print axioms proved
end Go.Proofs.Ytpjkhecefppamaa.txnPays
namespace Go.Proofs.Ytpjkhecefppamaa
/-- The row, under a short name, for the claim. -/
theorem txnPays_holds : Rows.TxnPaysSaid := txnPays.proved
end Go.Proofs.Ytpjkhecefppamaa
