/- What the document's Send, Take and At of a list answer: plain law. -/
import Derived.Test.YtklillecmjooeaaProg
import Derived.Below
import Derived.Deep.Draws
import Derived.Deep.AppendLies
import Derived.Maps.AppendAt
import Derived.OwnWalk
import Derived.Laws.BytesArg
import Derived.Laws.MakeOwn
import Derived.Laws.OwnMore
import Derived.Deep.OwnRows
import Derived.Tactics
import Derived.Lib.ConvBytes
import Derived.Laws.Slices
import Derived.WalkKit
import Derived.KernelRfl
import Derived.RowKit3
import Derived.Deep.LoopGhost
import Derived.Deep.QuietTactic
import Derived.BigQuiet
import Derived.WideLaws
import Derived.Deep.DeepCutAuto
import Derived.Deep.CutBlock
import Derived.Deep.RegionHeld3
import Derived.Laws.Rows
import Derived.Lib.AppendStr
import Derived.ArgAppend
import Derived.Laws.IdiomCopy
import Derived.OrdersHeld
import Derived.Laws.BitsLemmas
import Derived.RowKit
import Derived.StillTailTactics
import Derived.Test.YtklillecmjooeaaWWords
import Derived.Test.YtklillecmjooeaaWLast
import Derived.Test.YtklillecmjooeaaWMore
import Derived.Lib.Hide
import Derived.Test.YtklillecmjooeaaMAlln1
import Derived.Test.YtklillecmjooeaaSend
import Derived.Test.YtklillecmjooeaaSame
namespace Go.Proofs.Ytklillecmjooeaa.Hand
open Go Go.RowKit Go.Proofs.Ytklillecmjooeaa.Plain Go.Proofs.Ytklillecmjooeaa.PAll Go.Proofs.YtklillecmjooeaaW.PrintWords Go.Proofs.YtklillecmjooeaaW.PrintLast Go.Proofs.YtklillecmjooeaaW.PrintMore
set_option linter.unusedVariables false
set_option linter.unusedSimpArgs false
theorem str_size (l : List Int) : (strOfNums l).size = l.length := by simp [strOfNums, ByteArray.size]
theorem small_tells (xs : List S29) (hn : xs.length ≤ 9223372036854775807) : ∀ (m i : Nat) (x : Int), i + m = xs.length → ∃ r, mastheadlaw27_small.l0 (m + 1) x xs (xs.length : Int) i = some r
  | 0, i, x, h => by
    refine ⟨decide (x ≤ 150), ?_⟩
    unfold mastheadlaw27_small.l0
    rw [if_neg (by omega)]
  | m + 1, i, x, h => by
    unfold mastheadlaw27_small.l0
    rw [if_pos (by omega), if_pos (by omega), if_pos (by omega), show wrap64 ((i : Int) + 1) = ((i + 1 : Nat) : Int) from (wrap64_id (by omega) (by omega)).trans (by simp)]
    exact small_tells xs hn m (i + 1) _ (by omega)
theorem small_f (xs : List S29) (hn : xs.length ≤ 9223372036854775807) : ∃ r, mastheadlaw27_small.f (xs.length + 1) xs = some r := small_tells xs hn xs.length 0 0 (by omega)
theorem at_f (p : Int) (n : Nat) (h0 : 0 < n) (hn : n ≤ 1000000) : mastheadref27_At.f p n = some (atL p n) := by
  unfold mastheadref27_At.f
  rw [if_neg (by omega)]
  have h1 : (0 : Int) < n := by omega
  have h2 := Int.lt_tmod_of_pos p h1
  have h3 := Int.tmod_lt_of_pos p h1
  have h4 : atL p n = ((p.tmod n) + n) % (n : Int) := by unfold atL; rw [if_neg (by omega)]; exact (atL_eq h0).symm
  rw [h4]
  by_cases c : p.tmod n < 0
  · rw [if_pos c, wrap64_id (by omega) (by omega), Int.emod_eq_of_lt (by omega) (by omega)]
  · rw [if_neg c, Int.add_emod_right, Int.emod_eq_of_lt (by omega) (by omega)]
theorem take_tells (xs : List S58) (i : Nat) (hi : i < xs.length) (hn : xs.length ≤ 1000000) : ∀ (m j : Nat) (acc : List S58), j + m = xs.length → acc.length ≤ j →
    mastheadref27_Take.l0 (m + 1) xs i acc j = some (acc ++ (if j ≤ i then (xs.drop j).eraseIdx (i - j) else xs.drop j), (rd_T58 xs i).f0, 0)
  | 0, j, acc, h, ha => by
    unfold mastheadref27_Take.l0
    rw [if_neg (by omega), if_pos (by omega), if_pos (by omega), if_neg (by omega), List.drop_eq_nil_of_le (by omega), List.append_nil]
  | m + 1, j, acc, h, ha => by
    have hj : j < xs.length := by omega
    have hw : wrap64 ((j : Int) + 1) = ((j + 1 : Nat) : Int) := (wrap64_id (by omega) (by omega)).trans (by simp)
    have hd : xs.drop j = xs[j] :: xs.drop (j + 1) := List.drop_eq_getElem_cons hj
    have hr : rd_T58 xs j = xs[j] := by
      unfold rd_T58
      rw [List.getD_eq_getElem?_getD, Int.toNat_natCast, List.getElem?_eq_getElem hj]
      rfl
    unfold mastheadref27_Take.l0
    rw [if_pos (by omega)]
    by_cases e : j = i
    · subst e
      rw [if_pos rfl, hw, take_tells xs j hi hn m (j + 1) acc (by omega) (by omega), if_neg (by omega), if_pos (by omega), hd]
      simp
    · rw [if_neg (by omega), if_pos (by omega), if_pos (by omega), hw, hr, take_tells xs i hi hn m (j + 1) _ (by omega) (by simp; omega), hd]
      by_cases c : j ≤ i
      · rw [if_pos (by omega), if_pos c, show i - j = (i - (j + 1)) + 1 by omega, List.eraseIdx_cons_succ, List.append_assoc]
        rfl
      · rw [if_neg (by omega), if_neg c, List.append_assoc]
        rfl
theorem take_f (ms : List S49) (p : Int) (i : Nat) (hi : i < ms.length) (hat : atL p ms.length = i) (hn : ms.length ≤ 1000000) : mastheadref27_Take.f (ms.length + 1) (ms.map toX) p = some ((ms.eraseIdx i).map toX, strOfNums (rd_T49 ms i).f0, 0) := by
  unfold mastheadref27_Take.f
  rw [List.length_map, if_neg (by omega), at_f p ms.length (by omega) hn, hat, Option.bind_some]
  have h := take_tells (ms.map toX) i (by simpa using hi) (by simpa using hn) ms.length 0 [] (by simp) (by simp)
  rw [rdX hi, if_pos (by omega)] at h
  rw [show ((0 : Nat) : Int) = 0 from rfl] at h
  rw [h]
  simp [toX, List.eraseIdx_eq_take_drop_succ, List.map_take, List.map_drop]
theorem take_f0 (p : Int) : mastheadref27_Take.f 1 [] p = some ([], (⟨#[]⟩ : ByteArray), 6) := rfl
theorem send_f (ms : List S49) (bs : List Int) (now : Int) (hn : ms.length ≤ 1000000) : mastheadref27_Send.f (ms.map toX) (strOfNums bs) now = some ((sendL ms bs now).map toX, sendE bs.length ms.length) := by
  unfold mastheadref27_Send.f sendL sendE
  rw [str_size, List.length_map]
  by_cases h1 : 200000 < bs.length
  · rw [if_pos (by omega), if_pos h1, if_pos h1]
  · rw [if_neg (by omega), if_neg h1, if_neg h1]
    by_cases h2 : 64 ≤ ms.length
    · rw [if_pos (by omega), if_pos h2, if_pos h2]
    · rw [if_neg (by omega), if_neg h2, if_neg h2, if_pos (by simp; omega)]
      simp only [List.nil_append, Option.bind_some]
      rw [if_pos (by simp; omega)]
      simp [toX]
end Go.Proofs.Ytklillecmjooeaa.Hand
