/- A transaction's bytes: plain. -/
import Derived.Test.YtpjkhecefppamaaProg
import Derived.Below
import Derived.Deep.Draws
import Derived.Deep.AppendLies
import Derived.Maps.AppendAt
import Derived.OwnWalk
import Derived.Laws.BytesArg
import Derived.Laws.MakeOwn
import Derived.Laws.OwnMore
import Derived.Deep.OwnRows
import Derived.Tactics
import Derived.Lib.ConvBytes
import Derived.Laws.Slices
import Derived.WalkKit
import Derived.KernelRfl
import Derived.RowKit3
import Derived.Deep.LoopGhost
import Derived.Deep.QuietTactic
import Derived.BigQuiet
import Derived.WideLaws
import Derived.Deep.DeepCutAuto
import Derived.Deep.CutBlock
import Derived.Deep.RegionHeld3
import Derived.Laws.Rows
import Derived.Lib.AppendStr
import Derived.ArgAppend
import Derived.Laws.IdiomCopy
import Derived.OrdersHeld
import Derived.Laws.BitsLemmas
import Derived.RowKit
import Derived.StillTailTactics
import Derived.Test.YtpjkhecefppamaaWWords
import Derived.Test.YtpjkhecefppamaaWLast
import Derived.Test.YtpjkhecefppamaaWMore
import Derived.Lib.Hide
import Derived.Test.YtpjkhecefppamaaMAlln3
import Derived.Test.YtpjkhecefppamaaWriter
import Derived.Test.YtpjkhecefppamaaCodecPlain
namespace Go.Proofs.Ytpjkhecefppamaa.Hand
open Go Go.RowKit Go.Proofs.Ytpjkhecefppamaa.Plain Go.Proofs.Ytpjkhecefppamaa.PAll Go.Proofs.YtpjkhecefppamaaW.PrintWords Go.Proofs.YtpjkhecefppamaaW.PrintLast Go.Proofs.YtpjkhecefppamaaW.PrintMore
set_option linter.unusedVariables false
set_option linter.unusedSimpArgs false
abbrev OutT := S54
/-- An output's bytes. -/
def outB (o : OutT) : List Int := digs 8 o.f0.toNat ++ (varB o.f1.length ++ o.f1)
/-- What stands ahead of the outputs. -/
def headB (salt : Int) (n : Nat) : List Int := digs 1 1 ++ digs 8 salt.toNat ++ varB n
/-- A transaction's bytes. -/
def txB (salt : Int) (outs : List OutT) : List Int := headB salt outs.length ++ outs.flatMap outB
/-- Is an item too long? -/
def longs (outs : List OutT) : Bool := outs.any (fun o => decide (64 < o.f1.length))
def bytesE (salt : Int) (outs : List OutT) : Int := if 8 < outs.length then 4 else if longs outs then 4 else if (txB salt outs).length = 64 then 3 else 0
def bytesV (salt : Int) (outs : List OutT) : List Int := if bytesE salt outs = 0 then txB salt outs else []
theorem varB_len (n : Nat) : (varB n).length ≤ 9 := by
  unfold varB
  repeat' split
  all_goals simp [digs_length]
theorem headB_len (salt : Int) (n : Nat) : (headB salt n).length ≤ 18 := by
  have := varB_len n
  simp [headB, digs_length]
  omega
theorem outB_len (o : OutT) (h : o.f1.length ≤ 64) : (outB o).length ≤ 81 := by
  have := varB_len o.f1.length
  simp [outB, digs_length]
  omega
theorem outsB_len : ∀ (l : List OutT), (∀ o ∈ l, o.f1.length ≤ 64) → (l.flatMap outB).length ≤ 81 * l.length
  | [], _ => by simp
  | o :: l, h => by
    have h1 := outB_len o (h o (by simp))
    have h2 := outsB_len l (fun x hx => h x (by simp [hx]))
    simp only [List.flatMap_cons, List.length_append, List.length_cons]
    omega
theorem rd_out {outs : List OutT} {k : Int} (h0 : 0 ≤ k) (h1 : k < (outs.length : Int)) : ∃ h : k.toNat < outs.length, rd_T54 outs k = outs[k.toNat] := by
  refine ⟨by omega, ?_⟩
  unfold rd_T54
  rw [List.getD_eq_getElem?_getD, List.getElem?_eq_getElem (by omega : k.toNat < outs.length)]
  rfl
theorem take_out {outs : List OutT} {k : Int} (h0 : 0 ≤ k) (h1 : k < (outs.length : Int)) : (outs.take (k + 1).toNat).flatMap outB = (outs.take k.toNat).flatMap outB ++ outB (rd_T54 outs k) := by
  obtain ⟨h, e⟩ := rd_out h0 h1
  rw [show (k + 1).toNat = k.toNat + 1 by omega, List.take_add_one, List.getElem?_eq_getElem h, e]
  simp only [Option.toList, List.flatMap_append, List.flatMap_cons, List.flatMap_nil, List.append_nil]
theorem longs_of {outs : List OutT} {k : Int} (h0 : 0 ≤ k) (h1 : k < (outs.length : Int)) (h : 64 < (rd_T54 outs k).f1.length) : longs outs = true := by
  obtain ⟨hk, e⟩ := rd_out h0 h1
  rw [e] at h
  exact List.any_eq_true.mpr ⟨_, List.getElem_mem hk, by simpa using h⟩
theorem longs_not {outs : List OutT} (h : ∀ o ∈ outs, o.f1.length ≤ 64) : longs outs = false := by
  unfold longs
  rw [List.any_eq_false]
  intro o ho
  have := h o ho
  simp
  omega
/-- The document's output. -/
def toO (o : OutT) : S56 := ⟨o.f0, strOfNums o.f1⟩
theorem rd_O {outs : List OutT} {i : Nat} (h : i < outs.length) : rd_T56 (outs.map toO) (i : Int) = toO outs[i] := by
  unfold rd_T56
  rw [List.getD_eq_getElem?_getD, Int.toNat_natCast, List.getElem?_map, List.getElem?_eq_getElem h]
  rfl
theorem rd_N {outs : List OutT} {i : Nat} (h : i < outs.length) : rd_T54 outs (i : Int) = outs[i] := (rd_out (k := (i : Int)) (by omega) (by omega)).2
theorem ref_loop (salt : Int) (outs : List OutT) (hn : outs.length ≤ 1000000) : ∀ (m i k : Nat) (acc : List S56), i + m = outs.length → acc.length = i → mastheadlaw14_Ref.l0 (m + 1 + k) outs (outs.length : Int) i salt acc = some (salt, acc ++ (outs.drop i).map toO)
  | 0, i, k, acc, h, ha => by
    rw [show 0 + 1 + k = k + 1 by omega]
    unfold mastheadlaw14_Ref.l0
    rw [if_neg (by omega), List.drop_eq_nil_of_le (by omega)]
    simp
  | m + 1, i, k, acc, h, ha => by
    have hi : i < outs.length := by omega
    rw [show m + 1 + 1 + k = (m + 1 + k) + 1 by omega]
    unfold mastheadlaw14_Ref.l0
    rw [if_pos (by omega), if_pos (by omega), if_pos (by omega), if_pos (by omega), rd_N hi, show wrap64 ((i : Int) + 1) = ((i + 1 : Nat) : Int) from (wrap64_id (by omega) (by omega)).trans (by simp), ref_loop salt outs hn m (i + 1) k _ (by omega) (by simp; omega), List.drop_eq_getElem_cons hi, List.append_assoc]
    rfl
theorem ref_f (salt : Int) (outs : List OutT) (hn : outs.length ≤ 1000000) (k : Nat) (hk : outs.length < k) : mastheadlaw14_Ref.f k salt outs = some (salt, outs.map toO) := by
  have h := ref_loop salt outs hn outs.length 0 (k - outs.length - 1) [] (by omega) rfl
  rw [show outs.length + 1 + (k - outs.length - 1) = k by omega] at h
  unfold mastheadlaw14_Ref.f
  exact h
end Go.Proofs.Ytpjkhecefppamaa.Hand
