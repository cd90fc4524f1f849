/- Lists of lists of bytes, as they are read. -/
import Derived.Test.YtfcmdhimlfoofaaProg
import Derived.Below
import Derived.Deep.Draws
import Derived.Deep.AppendLies
import Derived.Maps.AppendAt
import Derived.OwnWalk
import Derived.Laws.BytesArg
import Derived.Laws.MakeOwn
import Derived.Laws.OwnMore
import Derived.Deep.OwnRows
import Derived.Tactics
import Derived.Lib.ConvBytes
import Derived.Laws.Slices
import Derived.WalkKit
import Derived.KernelRfl
import Derived.RowKit3
import Derived.Deep.LoopGhost
import Derived.Deep.QuietTactic
import Derived.BigQuiet
import Derived.WideLaws
import Derived.Deep.DeepCutAuto
import Derived.Deep.CutBlock
import Derived.Deep.RegionHeld3
import Derived.Laws.Rows
import Derived.Lib.AppendStr
import Derived.ArgAppend
import Derived.Laws.IdiomCopy
import Derived.OrdersHeld
import Derived.Laws.BitsLemmas
import Derived.RowKit
import Derived.StillTailTactics
import Derived.Test.YtfcmdhimlfoofaaWWords
import Derived.Test.YtfcmdhimlfoofaaWLast
import Derived.Test.YtfcmdhimlfoofaaWMore
import Derived.Lib.Hide
namespace Go.Proofs.Ytfcmdhimlfoofaa.Hand
open Go Go.RowKit Go.Proofs.YtfcmdhimlfoofaaW.PrintWords Go.Proofs.YtfcmdhimlfoofaaW.PrintLast Go.Proofs.YtfcmdhimlfoofaaW.PrintMore
set_option linter.unusedVariables false
/-- A list of lists of bytes. -/
def kRows : Kd (List (List Int)) := Kd.slice 23 (Kd.slice 5 (Kd.int .u8))
def rdR (xs : List (List Int)) (i : Int) : List Int := xs.getD i.toNat []
theorem at_row {w : World} {A : Option Addr} {n : Nat} {xs : List (List Int)} (h : Kd.C (Kd.slice 5 (Kd.int .u8)) w A n xs) (i : Int) (h0 : 0 ≤ i) (h1 : i < n) : ∃ ad A' c', A = some ad ∧ w.cell? (ad.add i.toNat) = some (.slice A' (rdR xs i).length c') ∧ (rdR xs i).length ≤ c' ∧ Kd.C (Kd.int .u8) w A' (rdR xs i).length (rdR xs i) := by
  obtain ⟨ad, c, e, _, hK, hc0⟩ := Kd.C_get h [] i h0 h1
  have hc : ∀ j u, c[j]? = some u → w.cell? (ad.add (i.toNat * 1 + j)) = some u := hc0
  obtain ⟨A', c', rfl, hl, hC⟩ := hK
  have := hc 0 _ rfl
  rw [Nat.mul_one, Nat.add_zero] at this
  exact ⟨ad, A', c', e, this, hl, hC⟩
theorem rdR_mem {xs : List (List Int)} {i : Int} (h0 : 0 ≤ i) (h1 : i < (xs.length : Int)) : rdR xs i ∈ xs := by
  unfold rdR
  rw [List.getD_eq_getElem?_getD, List.getElem?_eq_getElem (by omega)]
  exact List.getElem_mem _
theorem take_row {xs : List (List Int)} {k : Int} (h0 : 0 ≤ k) (h1 : k < (xs.length : Int)) : xs.take (k + 1).toNat = xs.take k.toNat ++ [rdR xs k] := by
  have e : (k + 1).toNat = k.toNat + 1 := by omega
  rw [e, List.take_succ_eq_append_getElem (by omega)]
  unfold rdR
  rw [List.getD_eq_getElem?_getD, List.getElem?_eq_getElem (by omega)]
  rfl
theorem flat_step {xs : List (List Int)} {k : Int} (h0 : 0 ≤ k) (h1 : k < (xs.length : Int)) : (xs.take (k + 1).toNat).flatten = (xs.take k.toNat).flatten ++ rdR xs k := by rw [take_row h0 h1, List.flatten_append]; simp
theorem flat_take_le (xs : List (List Int)) (k : Nat) : (xs.take k).flatten.length ≤ xs.flatten.length := by
  have e : xs.flatten = (xs.take k).flatten ++ (xs.drop k).flatten := by rw [← List.flatten_append, List.take_append_drop]
  rw [e, List.length_append]
  omega
/-- A list of lists that lies in a block of its own. -/
theorem C_rows {W : World} {k : Nat} {vs : List Value} {t : TypeId} {fr : Nat × Nat} {xs : List (List Int)} (hk : W.heap[k]? = some (.cells vs.toArray t fr)) (hl : vs.length = xs.length) (hm : xs.length ≤ 9223372036854775807)
    (h : ∀ (j : Nat) (v : Value) (ys : List Int), vs[j]? = some v → xs[j]? = some ys → ∃ A c, v = Value.slice A ys.length c ∧ ys.length ≤ c ∧ Kd.C (Kd.int .u8) W A ys.length ys) : Kd.C (Kd.slice 5 (Kd.int .u8)) W (some ⟨k, 0, none⟩) xs.length xs := by
  refine ⟨rfl, hm, fun _ => ⟨⟨k, 0, none⟩, rfl, fun j p hj => ?_⟩⟩
  have hjl := (List.getElem?_eq_some_iff.1 hj).1
  have hv : vs[j]? = some vs[j] := List.getElem?_eq_getElem (by omega)
  obtain ⟨A, c, e, hc, hC⟩ := h j vs[j] p hv hj
  refine ⟨[vs[j]], rfl, ⟨A, c, by rw [e], hc, hC⟩, fun i u hu => ?_⟩
  cases i with
  | succ i => simp at hu
  | zero =>
    have : u = vs[j] := by simpa using hu.symm
    subst this
    have hadd : (⟨k, 0, none⟩ : Addr).add (j * 1 + 0) = ⟨k, j, none⟩ := by rw [add_plain]; simp
    show W.cell? ((⟨k, 0, none⟩ : Addr).add (j * 1 + 0)) = _
    rw [hadd]
    simp only [World.cell?, hk]
    rw [← hv]
    simp
theorem C_row1 {W : World} {k : Nat} {A : Option Addr} {c : Nat} {t : TypeId} {fr : Nat × Nat} {ys : List Int} (hk : W.heap[k]? = some (.cells #[Value.slice A ys.length c] t fr)) (hc : ys.length ≤ c) (h : Kd.C (Kd.int .u8) W A ys.length ys) : Kd.C (Kd.slice 5 (Kd.int .u8)) W (some ⟨k, 0, none⟩) [ys].length [ys] :=
  C_rows (vs := [Value.slice A ys.length c]) hk rfl (by simp) (fun j v zs hv hz => by
    match j with
    | 0 =>
      have h1 : v = Value.slice A ys.length c := by simpa using hv.symm
      have h2 : zs = ys := by simpa using hz.symm
      subst h1 h2
      exact ⟨A, c, rfl, hc, h⟩
    | j + 1 => simp at hv)
theorem C_row2 {W : World} {k : Nat} {A A2 : Option Addr} {c c2 : Nat} {t : TypeId} {fr : Nat × Nat} {ys ys2 : List Int} (hk : W.heap[k]? = some (.cells #[Value.slice A ys.length c, Value.slice A2 ys2.length c2] t fr)) (hc : ys.length ≤ c) (h : Kd.C (Kd.int .u8) W A ys.length ys) (hc2 : ys2.length ≤ c2) (h2 : Kd.C (Kd.int .u8) W A2 ys2.length ys2) : Kd.C (Kd.slice 5 (Kd.int .u8)) W (some ⟨k, 0, none⟩) [ys, ys2].length [ys, ys2] :=
  C_rows (vs := [Value.slice A ys.length c, Value.slice A2 ys2.length c2]) hk rfl (by simp) (fun j v zs hv hz => by
    match j with
    | 0 =>
      have h1 : v = Value.slice A ys.length c := by simpa using hv.symm
      have h2 : zs = ys := by simpa using hz.symm
      subst h1 h2
      exact ⟨A, c, rfl, hc, h⟩
    | 1 =>
      have h1 : v = Value.slice A2 ys2.length c2 := by simpa using hv.symm
      have h2 : zs = ys2 := by simpa using hz.symm
      subst h1 h2
      exact ⟨A2, c2, rfl, hc2, by assumption⟩
    | j + 2 => simp at hv)
theorem C_row3 {W : World} {k : Nat} {A A2 A3 : Option Addr} {c c2 c3 : Nat} {t : TypeId} {fr : Nat × Nat} {ys ys2 ys3 : List Int} (hk : W.heap[k]? = some (.cells #[Value.slice A ys.length c, Value.slice A2 ys2.length c2, Value.slice A3 ys3.length c3] t fr)) (hc : ys.length ≤ c) (h : Kd.C (Kd.int .u8) W A ys.length ys) (hc2 : ys2.length ≤ c2) (h2 : Kd.C (Kd.int .u8) W A2 ys2.length ys2) (hc3 : ys3.length ≤ c3) (h3 : Kd.C (Kd.int .u8) W A3 ys3.length ys3) : Kd.C (Kd.slice 5 (Kd.int .u8)) W (some ⟨k, 0, none⟩) [ys, ys2, ys3].length [ys, ys2, ys3] :=
  C_rows (vs := [Value.slice A ys.length c, Value.slice A2 ys2.length c2, Value.slice A3 ys3.length c3]) hk rfl (by simp) (fun j v zs hv hz => by
    match j with
    | 0 =>
      have h1 : v = Value.slice A ys.length c := by simpa using hv.symm
      have h2 : zs = ys := by simpa using hz.symm
      subst h1 h2
      exact ⟨A, c, rfl, hc, h⟩
    | 1 =>
      have h1 : v = Value.slice A2 ys2.length c2 := by simpa using hv.symm
      have h2 : zs = ys2 := by simpa using hz.symm
      subst h1 h2
      exact ⟨A2, c2, rfl, hc2, by assumption⟩
    | 2 =>
      have h1 : v = Value.slice A3 ys3.length c3 := by simpa using hv.symm
      have h2 : zs = ys3 := by simpa using hz.symm
      subst h1 h2
      exact ⟨A3, c3, rfl, hc3, by assumption⟩
    | j + 3 => simp at hv)
end Go.Proofs.Ytfcmdhimlfoofaa.Hand
