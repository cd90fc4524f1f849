/- The law TxnBytes returns true for every transaction. -/
import Derived.Test.YtpjkhecefppamaaDoorRows
import Derived.Test.YtpjkhecefppamaaDoorLaw14Bytes
import Derived.Test.YtpjkhecefppamaaDoorOpens2
import Derived.Test.YtpjkhecefppamaaDoorWSized
import Derived.Test.YtpjkhecefppamaaDoorLaidK
import Derived.Test.YtpjkhecefppamaaDoorCards
import Derived.Test.YtpjkhecefppamaaDoorTie
import Derived.SevenTiedAt
import Derived.LaidMore
import Derived.Stop.Joined
import Derived.Handed
import Derived.WalkKit
import Derived.ProofKit
import Derived.OpenShut
import Derived.ShutString
import Derived.ChangeOld
import Derived.Below
import Derived.SizedLaws
namespace Go.Proofs.YtpjkhecefppamaaDoor.txnBytes
open Go.ChangeShapes Go.WideShapes Go.ChangeAt Go.RowKit
open Go.ChangeMaps (open_string shut_string)
open Go.Proofs.YtpjkhecefppamaaDoor.Opens Go.Proofs.YtpjkhecefppamaaDoorW.PrintWords
set_option linter.unusedVariables false
theorem own : ownKnob Tryd.prog.godebug = none := by kernel_rfl
theorem laidOut : laidOutB Tryd.prog = true := by kernel_rfl
set_option maxRecDepth 100000 in
theorem lifted (os : Os) (started : os.Started) (H : Type) (enc : TypeId × Value → H) :
    ReturnsInHanded {} Tryd.checked os 3 .any (fun w args => (Rows.txnBytesSpec.pre enc Tryd.prog Tryd.f3 [] false w args ∧ laidMetH Tryd.prog laidK w) ∧ sizedMet enc Tryd.prog Tryd.f3 (OpenSpec.ofChange Rows.txnBytesSpec) false w args) (Rows.txnBytesSpec.post enc Tryd.prog Tryd.f3 false true false false) := by
  refine returnsInHanded_of_change_and (C := Tryd.checked) (X := fun w _ => laidMetH Tryd.prog laidK w) (fun _ _ _ hh h => h.of_heap hh) own started (by kernel_rfl) Tryd.func3
    (ChangeSpec.witness_shaped (enc := enc) (C := Tryd.checked) (os := os) (X := fun w _ => laidMetH Tryd.prog laidK w) false (World.doorLaid Tryd.prog 400 os) #[.agg #[.int .u64 0, .slice none 0 0]] 8 rfl (World.shaped_of_RefB (by kernel_rfl) (by kernel_rfl)) (by kernel_rfl) (by kernel_rfl) (by kernel_rfl) (door_met os _)) ?_
  intro W base args ds gs before hval0 hW hcnd hsz0 hL _
  have KTW : Hand.KT W := laid_KT hL
  have hsz : (DataW.weightsEach Tryd.prog (Tryd.f3.params.toList ++ Rows.txnBytesSpec.plain.varTypes Tryd.prog) (ds ++ gs)).all (· ≤ reachBytes) = true := hsz0
  have hval : ∀ (j : Nat) t v, Tryd.f3.params[j]? = some t → args[j]? = some v → Value.okWide Tryd.prog W .any base t v := hval0
  have hW' := hW
  obtain ⟨p, q, hA0, hV, rfl, hfz, hnd⟩ := hW
  have hA : DataW.TrodAll enc Tryd.prog W 0 (fun _ => true) true Tryd.f3.params.toList args.toList ds p := hA0
  rw [Tryd.params3] at hA hval hsz
  obtain ⟨v0, vs0, d0, ds0, p0, q0, hargs, rfl, rfl, h0, r0⟩ := trodAll_cons hA
  obtain ⟨rfl, rfl, rfl⟩ := trodAll_nil r0
  obtain rfl : args = #[v0] := by cases args; simp_all
  obtain ⟨rfl, rfl⟩ := trodVars_none hV
  obtain ⟨cs_0, rfl, sz_0⟩ := okWide_structs Tryd.underlying25 (hval 0 25 v0 rfl rfl)
  have k0 := h0
  have lt0 : ∀ x ∈ p0, x.block < W.heap.size := by obtain ⟨m, hm⟩ := k0; exact DataW.trod_lt m _ _ _ hm
  obtain ⟨x_0, K_0, ok_0⟩ := Opn.agg (Opn.struct Tryd.underlying25 (by kernel_rfl) (OpnF.cons rfl (Opn.int Tryd.underlying22 (by kernel_rfl)) (OpnF.one rfl (Opn.slice Tryd.underlying23 (by kernel_rfl) (Opn.struct Tryd.underlying46 (by kernel_rfl) (OpnF.cons rfl (Opn.int Tryd.underlying22 (by kernel_rfl)) (OpnF.one rfl (Opn.slice Tryd.underlying28 (by kernel_rfl) (Opn.int Tryd.underlying5 (by kernel_rfl)))))))))) h0
  clear hA0 hval0 hsz0 hsz
  obtain ⟨A0, c0, e0, hc0, C0⟩ := Hand.K_tx K_0
  subst e0
  have hv0 : ∀ o ∈ x_0.2.map Hand.outOf, 0 ≤ o.f0 ∧ o.f0 < 18446744073709551616 := fun o ho => by (obtain ⟨y, hy, rfl⟩ := List.mem_map.mp ho; obtain ⟨m, hm, hw⟩ := Plain.wf_u64 (ok_0.2 y hy).1; show 0 ≤ y.1 ∧ y.1 < 18446744073709551616; omega)
  have hy0 : ∀ o ∈ x_0.2.map Hand.outOf, ∀ z ∈ o.f1, 0 ≤ z ∧ z < 256 := fun o ho => by (obtain ⟨y, hy, rfl⟩ := List.mem_map.mp ho; exact Plain.wf_u8s (ok_0.2 y hy).2)
  have hs0 : 0 ≤ x_0.1 ∧ x_0.1 < 18446744073709551616 := by (obtain ⟨m, hm, hw⟩ := Plain.wf_u64 ok_0.1; omega)
  refine (Hand.bytes14_calls x_0.1 A0 c0 _ W hs0 C0 hc0 hv0 hy0 KTW).mono fun e W' ⟨he, bel⟩ => ?_
  subst he
  exact ⟨_, rfl, _, _, _, [], _, [], hW', trodAll_mk1 (shut_bool Tryd.underlying4 _), (trodAll_cons_mk (Below.trod laidOut (by kernel_rfl) (of_decide_eq_true (by kernel_rfl)) k0 bel lt0) trodAll_mk0), rfl, bel.frame _, fun h => by cases h⟩
theorem over : Rows.txnBytesRow.holds Tryd.pinned (OpenSpec.ofChange Rows.txnBytesSpec) :=
  OpenClaim.holds_of_wide 3 Tryd.f3 rfl rfl rfl rfl rfl rfl rfl ⟨rfl, rfl, rfl, rfl, rfl⟩ rfl rfl rfl rfl rfl (by kernel_rfl) Tryd.func3 (by kernel_rfl)
    (of_decide_eq_true (by kernel_rfl)) (by unfold Func.isWrapper; first | (rw [if_pos (by decide +kernel)]; kernel_rfl) | (rw [if_neg (by decide +kernel)]; exact ⟨rfl, rfl⟩))
    (fun os started H enc _ => lifted os started H enc)
theorem proved : Rows.TxnBytesSaid := over
#print axioms proved
end Go.Proofs.YtpjkhecefppamaaDoor.txnBytes
namespace Go.Proofs.YtpjkhecefppamaaDoor
/-- The row, under a short name. -/
theorem txnBytes_holds : Rows.TxnBytesSaid := txnBytes.proved
/-- The card: the law's row, its listed variable tied to the program's text. -/
theorem txnBytes_card : Rows.TxnBytesCardSaid :=
  Claim7.holds_tied_plain_at .later [] [.data] true (true, "27184b09e7b6ca50e3ce7dd6197ec3d5bb8bb476072ee50c5c95f37c398a8840") false
    txnBytes_holds (fun _ h => by cases h) (by kernel_rfl) (fun _ h => by cases h) txnBytes_row_tie rfl ⟨rfl, rfl⟩ (by kernel_rfl) rfl
    (fun f fn hf hfn => by
      obtain rfl : f = 3 := Option.some.inj ((show Tryd.prog.funcNamed "masthead/mastheadlaw14.TxnBytes" = some 3 by kernel_rfl).symm.trans hf) |>.symm
      obtain rfl : fn = Tryd.f3 := (Option.some.inj (Tryd.func3.symm.trans hfn)).symm
      exact ⟨by kernel_rfl, fun j t ht => by
        rw [Tryd.params3] at ht
        have hm : t ∈ [25] := by simpa using Array.mem_of_getElem? ht
        have hall : ([25].all fun u => !Tryd.prog.wantsStandIn u) = true := by kernel_rfl
        exact (show Tryd.prog.wantsStandIn t = false by simpa using List.all_eq_true.1 hall t hm)⟩)
    (by kernel_rfl)
#print axioms txnBytes_card
end Go.Proofs.YtpjkhecefppamaaDoor
