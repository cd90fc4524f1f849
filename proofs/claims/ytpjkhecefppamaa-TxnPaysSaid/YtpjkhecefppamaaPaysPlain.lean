/- What is paid to an item: plain. -/
import Derived.Test.YtpjkhecefppamaaProg
import Derived.Below
import Derived.Deep.Draws
import Derived.Deep.AppendLies
import Derived.Maps.AppendAt
import Derived.OwnWalk
import Derived.Laws.BytesArg
import Derived.Laws.MakeOwn
import Derived.Laws.OwnMore
import Derived.Deep.OwnRows
import Derived.Tactics
import Derived.Lib.ConvBytes
import Derived.Laws.Slices
import Derived.WalkKit
import Derived.KernelRfl
import Derived.RowKit3
import Derived.Deep.LoopGhost
import Derived.Deep.QuietTactic
import Derived.BigQuiet
import Derived.WideLaws
import Derived.Deep.DeepCutAuto
import Derived.Deep.CutBlock
import Derived.Deep.RegionHeld3
import Derived.Laws.Rows
import Derived.Lib.AppendStr
import Derived.ArgAppend
import Derived.Laws.IdiomCopy
import Derived.OrdersHeld
import Derived.Laws.BitsLemmas
import Derived.RowKit
import Derived.StillTailTactics
import Derived.Test.YtpjkhecefppamaaWWords
import Derived.Test.YtpjkhecefppamaaWLast
import Derived.Test.YtpjkhecefppamaaWMore
import Derived.Lib.Hide
import Derived.Test.YtpjkhecefppamaaMAlln3
import Derived.Test.YtpjkhecefppamaaBigPlain
namespace Go.Proofs.Ytpjkhecefppamaa.Hand
open Go Go.RowKit Go.Proofs.Ytpjkhecefppamaa.Plain Go.Proofs.Ytpjkhecefppamaa.PAll Go.Proofs.YtpjkhecefppamaaW.PrintWords Go.Proofs.YtpjkhecefppamaaW.PrintLast Go.Proofs.YtpjkhecefppamaaW.PrintMore
set_option linter.unusedVariables false
set_option linter.unusedSimpArgs false
/-- The document's output. -/
def toO (o : OutT) : S56 := ⟨o.f0, strOfNums o.f1⟩
theorem rd_O {outs : List OutT} {i : Nat} (h : i < outs.length) : rd_T56 (outs.map toO) (i : Int) = toO outs[i] := by
  unfold rd_T56
  rw [List.getD_eq_getElem?_getD, Int.toNat_natCast, List.getElem?_map, List.getElem?_eq_getElem h]
  rfl
theorem rd_N {outs : List OutT} {i : Nat} (h : i < outs.length) : rd_T54 outs (i : Int) = outs[i] := (rd_out (k := (i : Int)) (by omega) (by omega)).2
theorem ref_loop (salt : Int) (outs : List OutT) (hn : outs.length ≤ 1000000) : ∀ (m i k : Nat) (acc : List S56), i + m = outs.length → acc.length = i → mastheadlaw14_Ref.l0 (m + 1 + k) outs (outs.length : Int) i salt acc = some (salt, acc ++ (outs.drop i).map toO)
  | 0, i, k, acc, h, ha => by
    rw [show 0 + 1 + k = k + 1 by omega]
    unfold mastheadlaw14_Ref.l0
    rw [if_neg (by omega), List.drop_eq_nil_of_le (by omega)]
    simp
  | m + 1, i, k, acc, h, ha => by
    have hi : i < outs.length := by omega
    rw [show m + 1 + 1 + k = (m + 1 + k) + 1 by omega]
    unfold mastheadlaw14_Ref.l0
    rw [if_pos (by omega), if_pos (by omega), if_pos (by omega), if_pos (by omega), rd_N hi, show wrap64 ((i : Int) + 1) = ((i + 1 : Nat) : Int) from (wrap64_id (by omega) (by omega)).trans (by simp), ref_loop salt outs hn m (i + 1) k _ (by omega) (by simp; omega), List.drop_eq_getElem_cons hi, List.append_assoc]
    rfl
theorem ref_f (salt : Int) (outs : List OutT) (hn : outs.length ≤ 1000000) (k : Nat) (hk : outs.length < k) : mastheadlaw14_Ref.f k salt outs = some (salt, outs.map toO) := by
  have h := ref_loop salt outs hn outs.length 0 (k - outs.length - 1) [] (by omega) rfl
  rw [show outs.length + 1 + (k - outs.length - 1) = k by omega] at h
  unfold mastheadlaw14_Ref.f
  exact h
/-- Is it paid to the item? -/
def hit (item : List Int) (o : OutT) : Bool := (strOfNums o.f1).toList == (strOfNums item).toList
/-- How much is paid to it. -/
def sumL (item : List Int) : List OutT → Int
  | [] => 0
  | o :: l => (if hit item o then o.f0 else 0) + sumL item l
theorem rsum_loop (outs : List OutT) (item : List Int) (hn : outs.length ≤ 20) (hv : ∀ o ∈ outs, 0 ≤ o.f0 ∧ o.f0 < 18446744073709551616) : ∀ (m i k : Nat) (acc : List Int) (b : Bool), i + m = outs.length → acc.length ≤ 5 + i → Dg acc → Cn acc → 4001 + m ≤ k →
    ∃ r, mastheadref14_Sum.l0 k (strOfNums item) acc b (outs.map toO) (outs.length : Int) i = some (r, b || (outs.drop i).any (hit item)) ∧ dv r = dv acc + sumL item (outs.drop i) ∧ Dg r ∧ Cn r
  | 0, i, k, acc, b, h, hl, hd, hc, hk => by
    obtain ⟨k, rfl⟩ : ∃ j, k = j + 1 := ⟨k - 1, by omega⟩
    refine ⟨acc, ?_, ?_, hd, hc⟩
    · unfold mastheadref14_Sum.l0
      rw [if_neg (by omega), List.drop_eq_nil_of_le (by omega)]
      simp
    · rw [List.drop_eq_nil_of_le (by omega)]
      simp [sumL]
  | m + 1, i, k, acc, b, h, hl, hd, hc, hk => by
    obtain ⟨k, rfl⟩ : ∃ j, k = j + 1 := ⟨k - 1, by omega⟩
    have hi : i < outs.length := by omega
    have hw : wrap64 ((i : Int) + 1) = ((i + 1 : Nat) : Int) := (wrap64_id (by omega) (by omega)).trans (by simp)
    unfold mastheadref14_Sum.l0
    rw [if_pos (by omega), if_pos (by omega), if_pos (by simp; omega), rd_O hi, List.drop_eq_getElem_cons hi, hw]
    simp only [List.any_cons, sumL]
    by_cases hh : (toO outs[i]).f1.toList = (strOfNums item).toList
    · have hb : hit item outs[i] = true := beq_iff_eq.mpr hh
      rw [if_pos hh, hb]
      obtain ⟨v0, v1⟩ := hv _ (List.getElem_mem hi)
      obtain ⟨t, ht, td, tg, tl⟩ := of_f outs[i].f0 v0 v1 k (by omega)
      obtain ⟨u, hu, ud, ug, uc, ul⟩ := add_f acc t hd tg (by omega) (by omega) k (by omega)
      rw [show mastheadref04_Of.f k [(toO outs[i]).f0] = some t from ht, Option.bind_some, hu, Option.bind_some]
      obtain ⟨r, h1, h2, h3, h4⟩ := rsum_loop outs item hn hv m (i + 1) k u true (by omega) (by omega) ug uc (by omega)
      refine ⟨r, ?_, ?_, h3, h4⟩
      · rw [h1]; simp
      · rw [h2, ud, td, if_pos rfl]; omega
    · have hb : hit item outs[i] = false := by
        cases he : hit item outs[i] with
        | false => rfl
        | true => exact absurd (beq_iff_eq.mp he) hh
      rw [if_neg hh, hb]
      obtain ⟨r, h1, h2, h3, h4⟩ := rsum_loop outs item hn hv m (i + 1) k acc b (by omega) (by omega) hd hc (by omega)
      refine ⟨r, ?_, ?_, h3, h4⟩
      · rw [h1]; simp
      · rw [h2]; simp
theorem rsum_f (salt : Int) (outs : List OutT) (item : List Int) (hn : outs.length ≤ 20) (hv : ∀ o ∈ outs, 0 ≤ o.f0 ∧ o.f0 < 18446744073709551616) : ∃ r, mastheadref14_Sum.f 5000 salt (outs.map toO) (strOfNums item) = some (r, outs.any (hit item)) ∧ dv r = sumL item outs ∧ Dg r ∧ Cn r := by
  obtain ⟨r, h1, h2, h3⟩ := rsum_loop outs item hn hv outs.length 0 5000 [] false (by omega) (by simp) (fun d hd => by simp at hd) (.inl rfl) (by omega)
  refine ⟨r, ?_, by rw [h2]; simp [dv], h3⟩
  unfold mastheadref14_Sum.f
  rw [List.length_map, show (0 : Int) = ((0 : Nat) : Int) from rfl, h1]
  simp
theorem pays_loop (outs : List OutT) (item : List Int) (hn : outs.length ≤ 1000000) : ∀ (m i k : Nat), i + m = outs.length → txn_Tx_Pays.l0 (m + 1 + k) item outs (outs.length : Int) i = some ((outs.drop i).any (hit item))
  | 0, i, k, h => by
    rw [show 0 + 1 + k = k + 1 by omega]
    unfold txn_Tx_Pays.l0
    rw [if_neg (by omega), List.drop_eq_nil_of_le (by omega)]
    rfl
  | m + 1, i, k, h => by
    have hi : i < outs.length := by omega
    rw [show m + 1 + 1 + k = (m + 1 + k) + 1 by omega]
    unfold txn_Tx_Pays.l0
    rw [if_pos (by omega), if_pos (by omega), if_pos (by omega), rd_N hi, show wrap64 ((i : Int) + 1) = ((i + 1 : Nat) : Int) from (wrap64_id (by omega) (by omega)).trans (by simp), pays_loop outs item hn m (i + 1) k (by omega), List.drop_eq_getElem_cons hi, List.any_cons]
    unfold bytes_Equal.f
    rw [Option.bind_some]
    show (if hit item outs[i] = true then some true else _) = _
    cases hit item outs[i] <;> simp
theorem pays_f (salt : Int) (outs : List OutT) (item : List Int) (hn : outs.length ≤ 20) : txn_Tx_Pays.f 21 salt outs item = some (outs.any (hit item)) := by
  have h := pays_loop outs item (by omega) outs.length 0 (20 - outs.length) (by omega)
  rw [show outs.length + 1 + (20 - outs.length) = 21 by omega] at h
  unfold txn_Tx_Pays.f
  exact h
theorem sumL_nonneg (item : List Int) : ∀ (l : List OutT), (∀ o ∈ l, 0 ≤ o.f0) → 0 ≤ sumL item l
  | [], _ => by simp [sumL]
  | o :: l, h => by
    have h1 := h o (by simp)
    have h2 := sumL_nonneg item l (fun x hx => h x (by simp [hx]))
    simp only [sumL]
    split <;> omega
theorem sumL_app (item : List Int) : ∀ (a b : List OutT), sumL item (a ++ b) = sumL item a + sumL item b
  | [], b => by simp [sumL]
  | o :: a, b => by simp only [List.cons_append, sumL, sumL_app item a b]; omega
theorem sumL_take (item : List Int) (outs : List OutT) (hv : ∀ o ∈ outs, 0 ≤ o.f0) (k : Nat) : sumL item (outs.take k) ≤ sumL item outs := by
  have h1 := sumL_app item (outs.take k) (outs.drop k)
  rw [List.take_append_drop] at h1
  have h2 := sumL_nonneg item (outs.drop k) (fun o ho => hv o (List.mem_of_mem_drop ho))
  omega
theorem sumL_step (item : List Int) (outs : List OutT) (k : Nat) (hk : k < outs.length) : sumL item (outs.take (k + 1)) = sumL item (outs.take k) + if hit item outs[k] then outs[k].f0 else 0 := by
  rw [List.take_add_one, List.getElem?_eq_getElem hk, sumL_app]
  simp [sumL]
end Go.Proofs.Ytpjkhecefppamaa.Hand
