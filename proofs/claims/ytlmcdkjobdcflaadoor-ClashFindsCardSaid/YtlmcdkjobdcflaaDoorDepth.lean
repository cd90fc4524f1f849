/- How deep a list of so many is: the program's answer, and the document's: walked. -/
import Derived.Test.YtlmcdkjobdcflaaDoorProg
import Derived.Below
import Derived.Deep.Draws
import Derived.Deep.AppendLies
import Derived.Maps.AppendAt
import Derived.OwnWalk
import Derived.Laws.BytesArg
import Derived.Laws.MakeOwn
import Derived.Laws.OwnMore
import Derived.Deep.OwnRows
import Derived.Tactics
import Derived.Lib.ConvBytes
import Derived.Laws.Slices
import Derived.WalkKit
import Derived.KernelRfl
import Derived.RowKit3
import Derived.Deep.LoopGhost
import Derived.Deep.QuietTactic
import Derived.BigQuiet
import Derived.WideLaws
import Derived.Deep.DeepCutAuto
import Derived.Deep.CutBlock
import Derived.Deep.RegionHeld3
import Derived.Laws.Rows
import Derived.Lib.AppendStr
import Derived.ArgAppend
import Derived.Laws.IdiomCopy
import Derived.OrdersHeld
import Derived.Laws.BitsLemmas
import Derived.RowKit
import Derived.StillTailTactics
import Derived.Test.YtlmcdkjobdcflaaDoorWWords
import Derived.Test.YtlmcdkjobdcflaaDoorWLast
import Derived.Test.YtlmcdkjobdcflaaDoorWMore
import Derived.Lib.Hide
import Derived.Outline
import Derived.Lib.BitFns
import Derived.Test.YtlmcdkjobdcflaaDoorMerkPlain
import Derived.Test.YtlmcdkjobdcflaaDoorShelf
import Derived.Test.YtlmcdkjobdcflaaDoorMAlln0
import Derived.Test.YtlmcdkjobdcflaaDoorMAlln1
import Derived.Test.YtlmcdkjobdcflaaDoorMAlln2
namespace Go.Proofs.YtlmcdkjobdcflaaDoor.Hand
open Go Go.RowKit Go.Proofs.YtlmcdkjobdcflaaDoor.Plain Go.Proofs.YtlmcdkjobdcflaaDoor.PAll Go.Proofs.YtlmcdkjobdcflaaDoorW.PrintWords Go.Proofs.YtlmcdkjobdcflaaDoorW.PrintLast Go.Proofs.YtlmcdkjobdcflaaDoorW.PrintMore
set_option linter.unusedVariables false
set_option linter.unusedSimpArgs false
theorem bitLenAux_is : ∀ f x : Nat, x < 2 ^ f → x < 2 ^ Lib.bitLenAux f x ∧ ∀ i, i < Lib.bitLenAux f x → 2 ^ i ≤ x
  | 0, x, h => ⟨by simpa [Lib.bitLenAux] using h, fun i hi => by simp [Lib.bitLenAux] at hi⟩
  | f + 1, x, h => by
    unfold Lib.bitLenAux
    by_cases h0 : x = 0
    · rw [if_pos h0]
      exact ⟨by omega, fun i hi => absurd hi (by omega)⟩
    · rw [if_neg h0]
      obtain ⟨h1, h2⟩ := bitLenAux_is f (x / 2) (by rw [Nat.pow_succ] at h; omega)
      rw [Nat.add_comm 1, Nat.pow_succ]
      refine ⟨by omega, fun i hi => ?_⟩
      cases i with
      | zero => simp; omega
      | succ i =>
        have := h2 i (by omega)
        rw [Nat.pow_succ]
        omega
theorem bitLen_depth {n : Nat} (h1 : 2 ≤ n) (h2 : n ≤ 18446744073709551616) : Lib.bitLen (n - 1) = depthP n := by
  obtain ⟨a, b⟩ := bitLenAux_is 64 (n - 1) (by
    have : (2 : Nat) ^ 64 = 18446744073709551616 := by decide
    omega)
  refine IsDepth.unique (n := n) ⟨?_, fun i hi => ?_⟩ (depthP_is n)
  · show n ≤ 2 ^ Lib.bitLenAux 64 (n - 1)
    omega
  · have := b i hi
    omega
theorem depthP_small {n : Nat} (h : n ≤ 1) : depthP n = 0 := IsDepth.unique (depthP_is n) ⟨by simpa using h, fun i hi => absurd hi (by omega)⟩
set_option maxRecDepth 100000 in
theorem depth_calls (n : Int) (w : World) (h0 : -9223372036854775808 ≤ n) (h1 : n ≤ 9223372036854775807) :
    Calls Tryd.prog 28 #[.int .i64 n] w fun e w' => e = .returned (.int .i64 (depthP n.toNat : Nat)) ∧ w' = w := by
  by_cases hn : n ≤ 1
  · have hz : depthP n.toNat = 0 := depthP_small (by omega)
    rw [hz]
    go_enter Tryd.func28, Tryd.ntmps28
    go_wp2
    go_ret
    exact ⟨rfl, rfl⟩
  · have hb := bitLen_depth (n := n.toNat) (by omega) (by omega)
    have HL := Lib.hid (fun u => Tryd.bits_Len64 (n - 1) u (by omega) (by omega))
    rw [show (n - 1).toNat = n.toNat - 1 by omega, hb] at HL
    obtain ⟨D, hD⟩ : ∃ D, depthP n.toNat = D := ⟨_, rfl⟩
    rw [hD] at HL ⊢
    have g0 : (1 : Int) < n := by omega
    have g1 : IntKind.i64.wrap (n - 1) = n - 1 := IntWalk.i64_in _ (by omega)
    have g2 : IntKind.u64.wrap (n - 1) = n - 1 := u64w_id (by omega) (by omega)
    clear hb hD
    go_enter Tryd.func28, Tryd.ntmps28
    go_wp2_with (go_at_call 57; (with_reducible refine (HL.out _).mono ?_); rintro e w' ⟨rfl, rfl⟩)
    go_ret
    exact ⟨rfl, rfl⟩
theorem rdepth_l0 (n : Nat) (hn : n ≤ 1000000) : ∀ fuel d : Nat, (∀ i, i < d → 2 ^ i < n) → depthP n < fuel + d → mastheadref08_Depth.l0 fuel (n : Int) (d : Int) ((2 ^ d : Nat) : Int) = some ((depthP n : Nat) : Int)
  | 0, d, h, hf => by
    have := (depthP_is n).1
    have := h (depthP n) (by omega)
    omega
  | fuel + 1, d, h, hf => by
    have hd20 : d ≤ 20 := by
      rcases Nat.lt_or_ge 20 d with hl | hl
      · have := h 20 hl
        omega
      · exact hl
    have hle : 2 ^ d ≤ 2 ^ 20 := Nat.pow_le_pow_right (by decide) hd20
    have h20 : (2 : Nat) ^ 20 = 1048576 := by decide
    unfold mastheadref08_Depth.l0
    by_cases hlt : 2 ^ d < n
    · rw [if_pos (by exact_mod_cast hlt)]
      have ih := rdepth_l0 n hn fuel (d + 1) (fun i hi => by
        by_cases e : i = d
        · subst e; exact hlt
        · exact h i (by omega)) (by omega)
      rw [← ih]
      congr 1
      · rw [wrap64_succ (by omega)]
      · rw [Nat.pow_succ]
        generalize 2 ^ d = p at hle
        rw [wrap64_id (by omega) (by omega)]
        simp
    · rw [if_neg (by intro hc; exact hlt (by exact_mod_cast hc))]
      rw [IsDepth.unique (depthP_is n) ⟨by omega, h⟩]
theorem rdepth_calls (n : Nat) (w : World) (hn : n ≤ 1000000) : Calls Tryd.prog 54 #[.int .i64 (n : Int)] w fun e w' => e = .returned (.int .i64 (depthP n : Nat)) ∧ Drawn0 w w' :=
  mastheadref08_Depth.calls (depthP n + 1) n _ w (rdepth_l0 n hn _ 0 (fun i hi => absurd hi (by omega)) (by omega))
theorem rwide_l0 (n l : Nat) (hn : n ≤ 1000000) (hl : l ≤ 1000000) : ∀ fuel i : Nat, i ≤ l → l < fuel + i → mastheadref08_Wide.l0 fuel ((wideP n i : Nat) : Int) (l : Int) (i : Int) = some ((wideP n l : Nat) : Int)
  | 0, i, h, hf => by omega
  | fuel + 1, i, h, hf => by
    have hw := wideP_le n i
    unfold mastheadref08_Wide.l0
    by_cases hlt : i < l
    · rw [if_pos (by exact_mod_cast hlt)]
      have ih := rwide_l0 n l hn hl fuel (i + 1) (by omega) (by omega)
      rw [← ih]
      have e1 : wrap64 (((wideP n i : Nat) : Int) + 1) = ((wideP n i + 1 : Nat) : Int) := wrap64_succ (by omega)
      congr 1
      · rw [e1, Int.tdiv_eq_ediv_of_nonneg (by omega), wrap64_id (by omega) (by omega), wideP]
        simp
      · rw [wrap64_succ (by omega)]
    · rw [if_neg (by intro hc; exact hlt (by exact_mod_cast hc))]
      obtain rfl : i = l := by omega
      rfl
theorem rwide_calls (n l : Nat) (w : World) (hn : n ≤ 1000000) (hl : l ≤ 1000000) : Calls Tryd.prog 56 #[.int .i64 (n : Int), .int .i64 (l : Int)] w fun e w' => e = .returned (.int .i64 (wideP n l : Nat)) ∧ Drawn0 w w' :=
  mastheadref08_Wide.calls (l + 1) n l _ w (rwide_l0 n l hn hl _ 0 (Nat.zero_le _) (by omega))
end Go.Proofs.YtlmcdkjobdcflaaDoor.Hand
