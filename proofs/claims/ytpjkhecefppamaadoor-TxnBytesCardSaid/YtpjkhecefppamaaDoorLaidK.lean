/- The table that the program's text lays: what it holds. -/
import Derived.Test.YtpjkhecefppamaaDoorProg
import Derived.Below
import Derived.Deep.Draws
import Derived.Deep.AppendLies
import Derived.Maps.AppendAt
import Derived.OwnWalk
import Derived.Laws.BytesArg
import Derived.Laws.MakeOwn
import Derived.Laws.OwnMore
import Derived.Deep.OwnRows
import Derived.Tactics
import Derived.Lib.ConvBytes
import Derived.Laws.Slices
import Derived.WalkKit
import Derived.KernelRfl
import Derived.RowKit3
import Derived.Deep.LoopGhost
import Derived.Deep.QuietTactic
import Derived.BigQuiet
import Derived.WideLaws
import Derived.Deep.DeepCutAuto
import Derived.Deep.CutBlock
import Derived.Deep.RegionHeld3
import Derived.Laws.Rows
import Derived.Lib.AppendStr
import Derived.ArgAppend
import Derived.Laws.IdiomCopy
import Derived.OrdersHeld
import Derived.Laws.BitsLemmas
import Derived.RowKit
import Derived.StillTailTactics
import Derived.Test.YtpjkhecefppamaaDoorWWords
import Derived.Test.YtpjkhecefppamaaDoorWLast
import Derived.Test.YtpjkhecefppamaaDoorWMore
import Derived.Test.YtpjkhecefppamaaDoorRows
import Derived.Test.YtpjkhecefppamaaDoorShaA
import Derived.ProofKit
import Derived.LaidMore
import Derived.OpenShut
import Derived.Stop.Joined
namespace Go.Proofs.YtpjkhecefppamaaDoor
open Go Go.RowKit Go.Proofs.YtpjkhecefppamaaDoorW.PrintWords
set_option linter.unusedVariables false
def laidK {H : Type} : List (String × DataW H) := [("masthead/sha2.k", Rows.laid_masthead_sha2_k)]
theorem gK : Tryd.prog.globalNamed "masthead/sha2.k" = some 0 := by kernel_rfl
theorem tK : (Tryd.prog.globals[(0 : Nat)]?).map (·.type) = some 88 := by kernel_rfl
theorem laid_list {H : Type} : (Rows.laid_masthead_sha2_k : DataW H) = .agg (Hand.kT.map fun n => .lit (.int .u32 n)) := rfl
/-- The door's own heap meets the condition. -/
theorem door_met (os : Os) (args : Array Value) : laidMetH Tryd.prog laidK ((World.doorLaid Tryd.prog 400 os).forCall (fun _ _ => 0) ⟨#[], args, []⟩).memory :=
  laidMetH_of_parts3 (fuel := 8) (laidMet_of_run' 8 (by kernel_rfl) (by kernel_rfl)) (by kernel_rfl) (by kernel_rfl)
set_option maxRecDepth 100000 in
theorem laid_KT {W : World} (h : laidMetH Tryd.prog laidK W) : Hand.KT W := by
  rw [MakeChecks.laidMetH_plain _ _ _ (by kernel_rfl)] at h
  obtain ⟨ps, ⟨g0, t0, cs, f0, p0, q0, hg0, ht0, hv0, hd0, _, _⟩, _⟩ := h
  obtain rfl := Option.some.inj (gK.symm.trans hg0)
  obtain rfl := Option.some.inj (tK.symm.trans ht0)
  obtain ⟨xs, m1, _, hx1, hlen, hn3, hel⟩ := DataW.trod_array Tryd.underlying88 hd0
  have c3 : Tryd.prog.cellsOf 79 = 1 := by kernel_rfl
  rw [c3] at hel
  intro i hi
  have h0 := hel i hi
  have hxi : i < xs.length := by omega
  rw [List.getElem?_eq_getElem hxi] at h0
  obtain ⟨k, e1, e2, _⟩ := DataW.trod_int Tryd.underlying79 h0
  have hx2 : (Rows.laid_masthead_sha2_k : DataW Unit) = .agg (xs.map (fun x => x.1)) := congrArg Prod.fst hx1
  rw [laid_list] at hx2
  injection hx2 with hx2
  have h3 : (Hand.kT.map fun n => (DataW.lit (.int .u32 n) : DataW Unit))[i]? = (xs.map (fun x => x.1))[i]? := by rw [hx2]
  have hki : i < Hand.kT.length := by show i < 64; exact hi
  rw [List.getElem?_map, List.getElem?_map, List.getElem?_eq_getElem hxi, List.getElem?_eq_getElem hki, Option.map_some, Option.map_some, e2] at h3
  have h4 : Hand.kT[i] = k := by
    have := Option.some.inj h3
    injection this with this
    injection this
  have h5 : rd Hand.kT (i : Int) = k := by
    unfold rd
    rw [Int.toNat_natCast, List.getD_eq_getElem?_getD, List.getElem?_eq_getElem hki, ← h4]
    rfl
  rw [h5]
  have h6 : cs[i]? = some (.int .u32 k) := by
    have : cs.toList[i]? = some (.int .u32 k) := by
      rw [Nat.mul_one] at e1
      have h7 : (List.take 1 (List.drop i cs.toList))[0]? = some (.int .u32 k) := by rw [e1]; rfl
      rw [List.getElem?_take_of_lt (by decide), List.getElem?_drop] at h7
      exact h7
    simpa using this
  rw [← h6]
  exact World.var?_cell hg0 hv0 i
end Go.Proofs.YtpjkhecefppamaaDoor
