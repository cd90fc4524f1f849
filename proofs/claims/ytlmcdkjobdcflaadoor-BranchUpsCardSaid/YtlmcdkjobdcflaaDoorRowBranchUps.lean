/- The law BranchUps returns true for every branch, leaf and root. -/
import Derived.Test.YtlmcdkjobdcflaaDoorRows
import Derived.Test.YtlmcdkjobdcflaaDoorBranchOpen
import Derived.Test.YtlmcdkjobdcflaaDoorOpens2
import Derived.Test.YtlmcdkjobdcflaaDoorWSized
import Derived.Test.YtlmcdkjobdcflaaDoorLaidK
import Derived.Test.YtlmcdkjobdcflaaDoorCards
import Derived.Test.YtlmcdkjobdcflaaDoorTie
import Derived.SevenTiedAt
import Derived.LaidMore
import Derived.Stop.Joined
import Derived.Handed
import Derived.Test.YtlmcdkjobdcflaaDoorLaw9Ups
import Derived.WalkKit
import Derived.ProofKit
import Derived.OpenShut
import Derived.ShutString
import Derived.ChangeOld
import Derived.Below
import Derived.SizedLaws
namespace Go.Proofs.YtlmcdkjobdcflaaDoor.branchUps
open Go.ChangeShapes Go.WideShapes Go.ChangeAt Go.RowKit
open Go.ChangeMaps (open_string shut_string)
open Go.Proofs.YtlmcdkjobdcflaaDoor.Opens Go.Proofs.YtlmcdkjobdcflaaDoorW.PrintWords
set_option linter.unusedVariables false
theorem own : ownKnob Tryd.prog.godebug = none := by kernel_rfl
theorem laidOut : laidOutB Tryd.prog = true := by kernel_rfl
set_option maxRecDepth 100000 in
theorem lifted (os : Os) (started : os.Started) (H : Type) (enc : TypeId × Value → H) :
    ReturnsInHanded {} Tryd.checked os 10 .any (fun w args => (Rows.branchUpsSpec.pre enc Tryd.prog Tryd.f10 [] false w args ∧ laidMetH Tryd.prog laidK w) ∧ sizedMet enc Tryd.prog Tryd.f10 (OpenSpec.ofChange Rows.branchUpsSpec) false w args) (Rows.branchUpsSpec.post enc Tryd.prog Tryd.f10 false true false false) := by
  refine returnsInHanded_of_change_and (C := Tryd.checked) (X := fun w _ => laidMetH Tryd.prog laidK w) (fun _ _ _ hh h => h.of_heap hh) own started (by kernel_rfl) Tryd.func10
    (ChangeSpec.witness_shaped (enc := enc) (C := Tryd.checked) (os := os) (X := fun w _ => laidMetH Tryd.prog laidK w) false (World.doorLaid Tryd.prog 400 os) #[.agg #[.int .i64 0, .int .i64 0, .slice none 0 0], .agg #[.int .u8 0, .int .u8 0, .int .u8 0, .int .u8 0, .int .u8 0, .int .u8 0, .int .u8 0, .int .u8 0, .int .u8 0, .int .u8 0, .int .u8 0, .int .u8 0, .int .u8 0, .int .u8 0, .int .u8 0, .int .u8 0, .int .u8 0, .int .u8 0, .int .u8 0, .int .u8 0, .int .u8 0, .int .u8 0, .int .u8 0, .int .u8 0, .int .u8 0, .int .u8 0, .int .u8 0, .int .u8 0, .int .u8 0, .int .u8 0, .int .u8 0, .int .u8 0], .agg #[.int .u8 0, .int .u8 0, .int .u8 0, .int .u8 0, .int .u8 0, .int .u8 0, .int .u8 0, .int .u8 0, .int .u8 0, .int .u8 0, .int .u8 0, .int .u8 0, .int .u8 0, .int .u8 0, .int .u8 0, .int .u8 0, .int .u8 0, .int .u8 0, .int .u8 0, .int .u8 0, .int .u8 0, .int .u8 0, .int .u8 0, .int .u8 0, .int .u8 0, .int .u8 0, .int .u8 0, .int .u8 0, .int .u8 0, .int .u8 0, .int .u8 0, .int .u8 0]] 8 rfl (World.shaped_of_RefB (by kernel_rfl) (by kernel_rfl)) (by kernel_rfl) (by kernel_rfl) (by kernel_rfl) (door_met os _)) ?_
  intro W base args ds gs before hval0 hW hcnd hsz0 hL _
  have KTW : Hand.KT W := laid_KT hL
  have hsz : (DataW.weightsEach Tryd.prog (Tryd.f10.params.toList ++ Rows.branchUpsSpec.plain.varTypes Tryd.prog) (ds ++ gs)).all (· ≤ reachBytes) = true := hsz0
  have hval : ∀ (j : Nat) t v, Tryd.f10.params[j]? = some t → args[j]? = some v → Value.okWide Tryd.prog W .any base t v := hval0
  have hW' := hW
  obtain ⟨p, q, hA0, hV, rfl, hfz, hnd⟩ := hW
  have hA : DataW.TrodAll enc Tryd.prog W 0 (fun _ => true) true Tryd.f10.params.toList args.toList ds p := hA0
  rw [Tryd.params10] at hA hval hsz
  obtain ⟨v0, vs0, d0, ds0, p0, q0, hargs, rfl, rfl, h0, r0⟩ := trodAll_cons hA
  obtain ⟨v1, vs1, d1, ds1, p1, q1, rfl, rfl, rfl, h1, r1⟩ := trodAll_cons r0
  obtain ⟨v2, vs2, d2, ds2, p2, q2, rfl, rfl, rfl, h2, r2⟩ := trodAll_cons r1
  obtain ⟨rfl, rfl, rfl⟩ := trodAll_nil r2
  obtain rfl : args = #[v0, v1, v2] := by cases args; simp_all
  obtain ⟨rfl, rfl⟩ := trodVars_none hV
  obtain ⟨cs_0, rfl, sz_0⟩ := okWide_structs Tryd.underlying41 (hval 0 41 v0 rfl rfl)
  have k0 := h0
  have lt0 : ∀ x ∈ p0, x.block < W.heap.size := by obtain ⟨m, hm⟩ := k0; exact DataW.trod_lt m _ _ _ hm
  obtain ⟨x_0, K_0, ok_0⟩ := Opn.agg (Opn.struct Tryd.underlying41 (by kernel_rfl) (OpnF.cons rfl (Opn.int Tryd.underlying3 (by kernel_rfl)) (OpnF.cons rfl (Opn.int Tryd.underlying3 (by kernel_rfl)) (OpnF.one rfl (Opn.slice Tryd.underlying22 (by kernel_rfl) (Opn.array (by decide) Tryd.underlying25 (by kernel_rfl) (Opn.int Tryd.underlying5 (by kernel_rfl)))))))) h0
  obtain ⟨cs_1, rfl, sz_1⟩ := okWide_array Tryd.underlying25 (hval 1 25 v1 rfl rfl)
  have k1 := h1
  have lt1 : ∀ x ∈ p1, x.block < W.heap.size := by obtain ⟨m, hm⟩ := k1; exact DataW.trod_lt m _ _ _ hm
  obtain ⟨x_1, K_1, ok_1⟩ := Opn.agg (Opn.array (by decide) Tryd.underlying25 (by kernel_rfl) (Opn.int Tryd.underlying5 (by kernel_rfl))) h1
  obtain ⟨cs_2, rfl, sz_2⟩ := okWide_array Tryd.underlying25 (hval 2 25 v2 rfl rfl)
  have k2 := h2
  have lt2 : ∀ x ∈ p2, x.block < W.heap.size := by obtain ⟨m, hm⟩ := k2; exact DataW.trod_lt m _ _ _ hm
  obtain ⟨x_2, K_2, ok_2⟩ := Opn.agg (Opn.array (by decide) Tryd.underlying25 (by kernel_rfl) (Opn.int Tryd.underlying5 (by kernel_rfl))) h2
  clear hA0 hval0 hsz0 hsz
  obtain ⟨cnt, idx, A, m, c, xs, he0, hm0, hC0, hc0, hH0, hl0, hu0⟩ := Hand.branch_open K_0 ok_0.1 ok_0.2.1 ok_0.2.2
  obtain ⟨z_1, zz_1⟩ := Hand.kH_K K_1
  obtain rfl : cs_1 = (nums .u8 x_1).toArray := by rw [← zz_1]
  obtain ⟨z_2, zz_2⟩ := Hand.kH_K K_2
  obtain rfl : cs_2 = (nums .u8 x_2).toArray := by rw [← zz_2]
  have HCL := Hand.ups9_calls cnt idx A m c xs x_1 x_2 W hm0 hC0 hc0 hH0 ⟨z_1, Plain.wf_u8s ok_1⟩ ⟨z_2, Plain.wf_u8s ok_2⟩ KTW hl0 hu0
  rw [← he0] at HCL
  refine (HCL).mono fun e W' ⟨he, bel⟩ => ?_
  subst he
  exact ⟨_, rfl, _, _, _, [], _, [], hW', trodAll_mk1 (shut_bool Tryd.underlying4 _), (trodAll_cons_mk (Below.trod laidOut (by kernel_rfl) (of_decide_eq_true (by kernel_rfl)) k0 bel lt0) (trodAll_cons_mk (Below.trod laidOut (by kernel_rfl) (of_decide_eq_true (by kernel_rfl)) k1 bel lt1) (trodAll_cons_mk (Below.trod laidOut (by kernel_rfl) (of_decide_eq_true (by kernel_rfl)) k2 bel lt2) trodAll_mk0))), rfl, bel.frame _, fun h => by cases h⟩
theorem over : Rows.branchUpsRow.holds Tryd.pinned (OpenSpec.ofChange Rows.branchUpsSpec) :=
  OpenClaim.holds_of_wide 10 Tryd.f10 rfl rfl rfl rfl rfl rfl rfl ⟨rfl, rfl, rfl, rfl, rfl⟩ rfl rfl rfl rfl rfl (by kernel_rfl) Tryd.func10 (by kernel_rfl)
    (of_decide_eq_true (by kernel_rfl)) (by unfold Func.isWrapper; first | (rw [if_pos (by decide +kernel)]; kernel_rfl) | (rw [if_neg (by decide +kernel)]; exact ⟨rfl, rfl⟩))
    (fun os started H enc _ => lifted os started H enc)
theorem proved : Rows.BranchUpsSaid := over
#print axioms proved
end Go.Proofs.YtlmcdkjobdcflaaDoor.branchUps
namespace Go.Proofs.YtlmcdkjobdcflaaDoor
/-- The row, under a short name. -/
theorem branchUps_holds : Rows.BranchUpsSaid := branchUps.proved
/-- The card: the law's row, its listed variable tied to the program's text. -/
theorem branchUps_card : Rows.BranchUpsCardSaid :=
  Claim7.holds_tied_plain_at .later [] [.data] true (true, "edaf2d63ed6b46e14bcee5fe5ace8e9af498e7c1868947ab19ffb1a082685625") false
    branchUps_holds (fun _ h => by cases h) (by kernel_rfl) (fun _ h => by cases h) branchUps_row_tie rfl ⟨rfl, rfl⟩ (by kernel_rfl) rfl
    (fun f fn hf hfn => by
      obtain rfl : f = 10 := Option.some.inj ((show Tryd.prog.funcNamed "masthead/mastheadlaw09.BranchUps" = some 10 by kernel_rfl).symm.trans hf) |>.symm
      obtain rfl : fn = Tryd.f10 := (Option.some.inj (Tryd.func10.symm.trans hfn)).symm
      exact ⟨by kernel_rfl, fun j t ht => by
        rw [Tryd.params10] at ht
        have hm : t ∈ [41, 25, 25] := by simpa using Array.mem_of_getElem? ht
        have hall : ([41, 25, 25].all fun u => !Tryd.prog.wantsStandIn u) = true := by kernel_rfl
        exact (show Tryd.prog.wantsStandIn t = false by simpa using List.all_eq_true.1 hall t hm)⟩)
    (by kernel_rfl)
#print axioms branchUps_card
end Go.Proofs.YtlmcdkjobdcflaaDoor
