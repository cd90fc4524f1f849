/- The law HeaderApart: for every input; the table of rounds is as the program's text lays it. -/
import Derived.Test.YtefnpecncacepaaDoorRows
import Derived.Test.YtefnpecncacepaaDoorHeadOpen
import Derived.Test.YtefnpecncacepaaDoorOpens2
import Derived.Test.YtefnpecncacepaaDoorWSized
import Derived.Test.YtefnpecncacepaaDoorLaidK
import Derived.Test.YtefnpecncacepaaDoorCards
import Derived.Test.YtefnpecncacepaaDoorTie
import Derived.SevenTiedAt
import Derived.LaidMore
import Derived.Stop.Joined
import Derived.Handed
import Derived.WalkKit
import Derived.ProofKit
import Derived.OpenShut
import Derived.ShutString
import Derived.ChangeOld
import Derived.Below
import Derived.SizedLaws
namespace Go.Proofs.YtefnpecncacepaaDoor.headerApart
open Go.ChangeShapes Go.WideShapes Go.ChangeAt Go.RowKit
open Go.ChangeMaps (open_string shut_string)
open Go.Proofs.YtefnpecncacepaaDoor.Opens Go.Proofs.YtefnpecncacepaaDoorW.PrintWords
set_option linter.unusedVariables false
theorem own : ownKnob Tryd.prog.godebug = none := by kernel_rfl
theorem laidOut : laidOutB Tryd.prog = true := by kernel_rfl
set_option maxRecDepth 100000 in
theorem lifted (os : Os) (started : os.Started) (H : Type) (enc : TypeId × Value → H) :
    ReturnsInHanded {} Tryd.checked os 3 .any (fun w args => (Rows.headerApartSpec.pre enc Tryd.prog Tryd.f3 [] false w args ∧ laidMetH Tryd.prog laidK w) ∧ sizedMet enc Tryd.prog Tryd.f3 (OpenSpec.ofChange Rows.headerApartSpec) false w args) (Rows.headerApartSpec.post enc Tryd.prog Tryd.f3 false true false false) := by
  refine returnsInHanded_of_change_and (C := Tryd.checked) (X := fun w _ => laidMetH Tryd.prog laidK w) (fun _ _ _ hh h => h.of_heap hh) own started (by kernel_rfl) Tryd.func3
    (ChangeSpec.witness_shaped (enc := enc) (C := Tryd.checked) (os := os) (X := fun w _ => laidMetH Tryd.prog laidK w) false (World.doorLaid Tryd.prog 400 os) #[.agg #[.int .u32 0, .int .u8 0, .int .u8 0, .int .u8 0, .int .u8 0, .int .u8 0, .int .u8 0, .int .u8 0, .int .u8 0, .int .u8 0, .int .u8 0, .int .u8 0, .int .u8 0, .int .u8 0, .int .u8 0, .int .u8 0, .int .u8 0, .int .u8 0, .int .u8 0, .int .u8 0, .int .u8 0, .int .u8 0, .int .u8 0, .int .u8 0, .int .u8 0, .int .u8 0, .int .u8 0, .int .u8 0, .int .u8 0, .int .u8 0, .int .u8 0, .int .u8 0, .int .u8 0, .int .u8 0, .int .u8 0, .int .u8 0, .int .u8 0, .int .u8 0, .int .u8 0, .int .u8 0, .int .u8 0, .int .u8 0, .int .u8 0, .int .u8 0, .int .u8 0, .int .u8 0, .int .u8 0, .int .u8 0, .int .u8 0, .int .u8 0, .int .u8 0, .int .u8 0, .int .u8 0, .int .u8 0, .int .u8 0, .int .u8 0, .int .u8 0, .int .u8 0, .int .u8 0, .int .u8 0, .int .u8 0, .int .u8 0, .int .u8 0, .int .u8 0, .int .u8 0, .int .u32 0, .int .u32 0, .int .u32 0], .agg #[.int .u32 0, .int .u8 0, .int .u8 0, .int .u8 0, .int .u8 0, .int .u8 0, .int .u8 0, .int .u8 0, .int .u8 0, .int .u8 0, .int .u8 0, .int .u8 0, .int .u8 0, .int .u8 0, .int .u8 0, .int .u8 0, .int .u8 0, .int .u8 0, .int .u8 0, .int .u8 0, .int .u8 0, .int .u8 0, .int .u8 0, .int .u8 0, .int .u8 0, .int .u8 0, .int .u8 0, .int .u8 0, .int .u8 0, .int .u8 0, .int .u8 0, .int .u8 0, .int .u8 0, .int .u8 0, .int .u8 0, .int .u8 0, .int .u8 0, .int .u8 0, .int .u8 0, .int .u8 0, .int .u8 0, .int .u8 0, .int .u8 0, .int .u8 0, .int .u8 0, .int .u8 0, .int .u8 0, .int .u8 0, .int .u8 0, .int .u8 0, .int .u8 0, .int .u8 0, .int .u8 0, .int .u8 0, .int .u8 0, .int .u8 0, .int .u8 0, .int .u8 0, .int .u8 0, .int .u8 0, .int .u8 0, .int .u8 0, .int .u8 0, .int .u8 0, .int .u8 0, .int .u32 0, .int .u32 0, .int .u32 0]] 8 rfl (World.shaped_of_RefB (by kernel_rfl) (by kernel_rfl)) (by kernel_rfl) (by kernel_rfl) (by kernel_rfl) (door_met os _)) ?_
  intro W base args ds gs before hval0 hW hcnd hsz0 hL _
  have KTW : Hand.KT W := laid_KT hL
  have hsz : (DataW.weightsEach Tryd.prog (Tryd.f3.params.toList ++ Rows.headerApartSpec.plain.varTypes Tryd.prog) (ds ++ gs)).all (· ≤ reachBytes) = true := hsz0
  have hval : ∀ (j : Nat) t v, Tryd.f3.params[j]? = some t → args[j]? = some v → Value.okWide Tryd.prog W .any base t v := hval0
  have hW' := hW
  obtain ⟨p, q, hA0, hV, rfl, hfz, hnd⟩ := hW
  have hA : DataW.TrodAll enc Tryd.prog W 0 (fun _ => true) true Tryd.f3.params.toList args.toList ds p := hA0
  rw [Tryd.params3] at hA hval hsz
  obtain ⟨v0, vs0, d0, ds0, p0, q0, hargs, rfl, rfl, h0, r0⟩ := trodAll_cons hA
  obtain ⟨v1, vs1, d1, ds1, p1, q1, rfl, rfl, rfl, h1, r1⟩ := trodAll_cons r0
  obtain ⟨rfl, rfl, rfl⟩ := trodAll_nil r1
  obtain rfl : args = #[v0, v1] := by cases args; simp_all
  obtain ⟨rfl, rfl⟩ := trodVars_none hV
  obtain ⟨cs_0, rfl, sz_0⟩ := okWide_structs Tryd.underlying26 (hval 0 26 v0 rfl rfl)
  have k0 := h0
  have lt0 : ∀ x ∈ p0, x.block < W.heap.size := by obtain ⟨m, hm⟩ := k0; exact DataW.trod_lt m _ _ _ hm
  obtain ⟨x_0, K_0, ok_0⟩ := Opn.agg (Opn.struct Tryd.underlying26 (by kernel_rfl) (OpnF.cons rfl (Opn.int Tryd.underlying22 (by kernel_rfl)) (OpnF.cons rfl (Opn.array (by decide) Tryd.underlying24 (by kernel_rfl) (Opn.int Tryd.underlying5 (by kernel_rfl))) (OpnF.cons rfl (Opn.array (by decide) Tryd.underlying24 (by kernel_rfl) (Opn.int Tryd.underlying5 (by kernel_rfl))) (OpnF.cons rfl (Opn.int Tryd.underlying22 (by kernel_rfl)) (OpnF.cons rfl (Opn.int Tryd.underlying22 (by kernel_rfl)) (OpnF.one rfl (Opn.int Tryd.underlying22 (by kernel_rfl))))))))) h0
  obtain ⟨cs_1, rfl, sz_1⟩ := okWide_structs Tryd.underlying26 (hval 1 26 v1 rfl rfl)
  have k1 := h1
  have lt1 : ∀ x ∈ p1, x.block < W.heap.size := by obtain ⟨m, hm⟩ := k1; exact DataW.trod_lt m _ _ _ hm
  obtain ⟨x_1, K_1, ok_1⟩ := Opn.agg (Opn.struct Tryd.underlying26 (by kernel_rfl) (OpnF.cons rfl (Opn.int Tryd.underlying22 (by kernel_rfl)) (OpnF.cons rfl (Opn.array (by decide) Tryd.underlying24 (by kernel_rfl) (Opn.int Tryd.underlying5 (by kernel_rfl))) (OpnF.cons rfl (Opn.array (by decide) Tryd.underlying24 (by kernel_rfl) (Opn.int Tryd.underlying5 (by kernel_rfl))) (OpnF.cons rfl (Opn.int Tryd.underlying22 (by kernel_rfl)) (OpnF.cons rfl (Opn.int Tryd.underlying22 (by kernel_rfl)) (OpnF.one rfl (Opn.int Tryd.underlying22 (by kernel_rfl))))))))) h1
  clear hA0 hval0 hsz0 hsz
  obtain ⟨hv0, hp0, hr0, ht0, hb0, hn0, he0, hw0⟩ := Hand.head_open K_0 ok_0.1 ok_0.2.1 ok_0.2.2.1 ok_0.2.2.2.1 ok_0.2.2.2.2.1 ok_0.2.2.2.2.2
  obtain ⟨hv1, hp1, hr1, ht1, hb1, hn1, he1, hw1⟩ := Hand.head_open K_1 ok_1.1 ok_1.2.1 ok_1.2.2.1 ok_1.2.2.2.1 ok_1.2.2.2.2.1 ok_1.2.2.2.2.2
  have HCL := Hand.apartl_calls hv0 hp0 hr0 ht0 hb0 hn0 hv1 hp1 hr1 ht1 hb1 hn1 W KTW hw0 hw1
  rw [← he0, ← he1] at HCL
  refine (HCL).mono fun e W' ⟨he, bel⟩ => ?_
  subst he
  exact ⟨_, rfl, _, _, _, [], _, [], hW', trodAll_mk1 (shut_bool Tryd.underlying4 _), (trodAll_cons_mk (Below.trod laidOut (by kernel_rfl) (of_decide_eq_true (by kernel_rfl)) k0 bel lt0) (trodAll_cons_mk (Below.trod laidOut (by kernel_rfl) (of_decide_eq_true (by kernel_rfl)) k1 bel lt1) trodAll_mk0)), rfl, bel.frame _, fun h => by cases h⟩
theorem over : Rows.headerApartRow.holds Tryd.pinned (OpenSpec.ofChange Rows.headerApartSpec) :=
  OpenClaim.holds_of_wide 3 Tryd.f3 rfl rfl rfl rfl rfl rfl rfl ⟨rfl, rfl, rfl, rfl, rfl⟩ rfl rfl rfl rfl rfl (by kernel_rfl) Tryd.func3 (by kernel_rfl)
    (of_decide_eq_true (by kernel_rfl)) (by unfold Func.isWrapper; first | (rw [if_pos (by decide +kernel)]; kernel_rfl) | (rw [if_neg (by decide +kernel)]; exact ⟨rfl, rfl⟩))
    (fun os started H enc _ => lifted os started H enc)
theorem proved : Rows.HeaderApartSaid := over
#print axioms proved
end Go.Proofs.YtefnpecncacepaaDoor.headerApart
namespace Go.Proofs.YtefnpecncacepaaDoor
/-- The row, under a short name. -/
theorem headerApart_holds : Rows.HeaderApartSaid := headerApart.proved
/-- The card: the law's row, its listed variable tied to the program's text. -/
theorem headerApart_card : Rows.HeaderApartCardSaid :=
  Claim7.holds_tied_plain_at .later [] [.data] true (true, "df130dcbc00706934691ce8be34d45aca767558c1326bfd6cd85103f534c7e2e") false
    headerApart_holds (fun _ h => by cases h) (by kernel_rfl) (fun _ h => by cases h) headerApart_row_tie rfl ⟨rfl, rfl⟩ (by kernel_rfl) rfl
    (fun f fn hf hfn => by
      obtain rfl : f = 3 := Option.some.inj ((show Tryd.prog.funcNamed "masthead/mastheadlaw07.HeaderApart" = some 3 by kernel_rfl).symm.trans hf) |>.symm
      obtain rfl : fn = Tryd.f3 := (Option.some.inj (Tryd.func3.symm.trans hfn)).symm
      exact ⟨by kernel_rfl, fun j t ht => by
        rw [Tryd.params3] at ht
        have hm : t ∈ [26, 26] := by simpa using Array.mem_of_getElem? ht
        have hall : ([26, 26].all fun u => !Tryd.prog.wantsStandIn u) = true := by kernel_rfl
        exact (show Tryd.prog.wantsStandIn t = false by simpa using List.all_eq_true.1 hall t hm)⟩)
    (by kernel_rfl)
#print axioms headerApart_card
end Go.Proofs.YtefnpecncacepaaDoor
