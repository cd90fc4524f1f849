/- The bit reader's methods, called. -/
import Derived.Test.YtakpohcobpbjkaaProg
import Derived.Below
import Derived.Deep.Draws
import Derived.Deep.AppendLies
import Derived.Maps.AppendAt
import Derived.OwnWalk
import Derived.Laws.BytesArg
import Derived.Laws.MakeOwn
import Derived.Laws.OwnMore
import Derived.Deep.OwnRows
import Derived.Tactics
import Derived.Lib.ConvBytes
import Derived.Laws.Slices
import Derived.WalkKit
import Derived.KernelRfl
import Derived.RowKit3
import Derived.Deep.LoopGhost
import Derived.Deep.QuietTactic
import Derived.BigQuiet
import Derived.WideLaws
import Derived.Deep.DeepCutAuto
import Derived.Deep.CutBlock
import Derived.Deep.RegionHeld3
import Derived.Laws.Rows
import Derived.Lib.AppendStr
import Derived.ArgAppend
import Derived.Laws.IdiomCopy
import Derived.OrdersHeld
import Derived.Laws.BitsLemmas
import Derived.RowKit
import Derived.StillTailTactics
import Derived.Test.YtakpohcobpbjkaaWWords
import Derived.Test.YtakpohcobpbjkaaWLast
import Derived.Test.YtakpohcobpbjkaaWMore
import Derived.Lib.Hide
import Derived.Test.YtakpohcobpbjkaaReader
import Derived.Test.YtakpohcobpbjkaaReader2
namespace Go.Proofs.Ytakpohcobpbjkaa.Hand
open Go Go.RowKit Go.Proofs.Ytakpohcobpbjkaa.Plain Go.Proofs.Ytakpohcobpbjkaa.PAll Go.Proofs.YtakpohcobpbjkaaW.PrintWords Go.Proofs.YtakpohcobpbjkaaW.PrintLast Go.Proofs.YtakpohcobpbjkaaW.PrintMore
attribute [local go_sem] max2_int min2_int max_two min_two max_three min_three max_four min_four
set_option linter.unusedVariables false
section
variable {w : World} {B g : Nat} {bs : List Int} {p : Nat} (h : IsRd w B g bs (p : Int)) (hb : ∀ x ∈ bs, 0 ≤ x ∧ x < 256) (hl : bs.length ≤ 1000) (hp : p ≤ 8 * bs.length)
include h hb hl hp
omit hb in
theorem rd_left : Calls Try.prog 24 #[.pointer (some ⟨g, 0, none⟩)] w fun e w' => e = .returned (.int .i64 (((allOf bs).drop p).length : Nat)) ∧ IsRd w' B g bs (p : Int) ∧ Below B w w' ∧ KeepBut w w' g none := by
  obtain ⟨h1, h2⟩ := (show IsS61 (trunc w g) w g bs (p : Int) ∧ Below (trunc w g).heap.size (trunc w g) w from ⟨h.2, below_trunc h.lt⟩)
  refine (bit_Reader_Left.calls g bs (p : Int) _ _ _ w h1 h2 (left_tells bs hl p hp)).mono fun e w' hh => ?_
  obtain ⟨he, hI, hB, hK⟩ := hh
  obtain ⟨k1, k2⟩ := h.shut hI hB hK
  exact ⟨he, k1, k2, hK⟩
theorem rd_take (a : Int) : Calls Try.prog 34 #[.pointer (some ⟨g, 0, none⟩), .int .i64 a] w fun e w' => e = .returned (.tuple #[.int .u64 ((takeOf ((allOf bs).drop p) (mn (mx a 0) 64).toNat).1 : Nat), .int .i64 (takeOf ((allOf bs).drop p) (mn (mx a 0) 64).toNat).2.1]) ∧
    IsRd w' B g bs ((p + (takeOf ((allOf bs).drop p) (mn (mx a 0) 64).toNat).2.2 : Nat) : Int) ∧ Below B w w' ∧ KeepBut w w' g none := by
  obtain ⟨h1, h2⟩ := (show IsS61 (trunc w g) w g bs (p : Int) ∧ Below (trunc w g).heap.size (trunc w g) w from ⟨h.2, below_trunc h.lt⟩)
  refine (bit_Reader_Take.calls 100 g bs (p : Int) a _ _ _ _ w h1 h2 (take_tells bs hb hl p hp a 100 (by omega))).mono fun e w' hh => ?_
  obtain ⟨he, hI, hB, hK⟩ := hh
  obtain ⟨k1, k2⟩ := h.shut hI hB hK
  exact ⟨he, k1, k2, hK⟩
theorem rd_run (a : Int) (ha : a ≤ 9223372036854775807) : Calls Try.prog 33 #[.pointer (some ⟨g, 0, none⟩), .int .i64 a] w fun e w' => e = .returned (.tuple #[.int .i64 ((runOf ((allOf bs).drop p) (mx a 0).toNat).1 : Nat), .int .i64 (runOf ((allOf bs).drop p) (mx a 0).toNat).2.1]) ∧
    IsRd w' B g bs ((p + (runOf ((allOf bs).drop p) (mx a 0).toNat).2.2 : Nat) : Int) ∧ Below B w w' ∧ KeepBut w w' g none := by
  obtain ⟨h1, h2⟩ := (show IsS61 (trunc w g) w g bs (p : Int) ∧ Below (trunc w g).heap.size (trunc w g) w from ⟨h.2, below_trunc h.lt⟩)
  refine (bit_Reader_Run.calls (8 * bs.length + 1) g bs (p : Int) a _ _ _ _ w h1 h2 (run_tells bs hb hl p hp a ha _ (by omega))).mono fun e w' hh => ?_
  obtain ⟨he, hI, hB, hK⟩ := hh
  obtain ⟨k1, k2⟩ := h.shut hI hB hK
  exact ⟨he, k1, k2, hK⟩
theorem rd_clean : Calls Try.prog 25 #[.pointer (some ⟨g, 0, none⟩)] w fun e w' => e = .returned (.bool (cleanOf ((allOf bs).drop p))) ∧ IsRd w' B g bs (p : Int) ∧ Below B w w' ∧ KeepBut w w' g none := by
  obtain ⟨h1, h2⟩ := (show IsS61 (trunc w g) w g bs (p : Int) ∧ Below (trunc w g).heap.size (trunc w g) w from ⟨h.2, below_trunc h.lt⟩)
  refine (bit_Reader_Clean.calls (8 * bs.length + 1) g bs (p : Int) _ _ _ w h1 h2 (clean_tells bs hb hl p hp _ (by omega))).mono fun e w' hh => ?_
  obtain ⟨he, hI, hB, hK⟩ := hh
  obtain ⟨k1, k2⟩ := h.shut hI hB hK
  exact ⟨he, k1, k2, hK⟩
end
theorem takeOf_le (s : List Bool) (q : Nat) : (takeOf s q).2.2 ≤ s.length := by unfold takeOf; split <;> simp <;> omega
theorem runOf_le (s : List Bool) (m : Nat) : (runOf s m).2.2 ≤ s.length := by
  have := lead_le s
  unfold runOf
  repeat' split
  all_goals simp
  omega
end Go.Proofs.Ytakpohcobpbjkaa.Hand
