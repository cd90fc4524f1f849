/- What the document's functions of the codec compute, over lists of bytes. -/
import Derived.Test.YtefnpecncacepaaCodecPlain
import Derived.Test.YtefnpecncacepaaWriter
import Derived.Test.YtefnpecncacepaaMAlln0
import Derived.Test.YtefnpecncacepaaMAlln1
import Derived.Test.YtefnpecncacepaaMAlln2
namespace Go.Proofs.Ytefnpecncacepaa.Hand
open Go Go.RowKit Go.Proofs.Ytefnpecncacepaa.Plain Go.Proofs.Ytefnpecncacepaa.PAll Go.Proofs.YtefnpecncacepaaW.PrintWords Go.Proofs.YtefnpecncacepaaW.PrintLast Go.Proofs.YtefnpecncacepaaW.PrintMore
set_option linter.unusedVariables false
set_option linter.unusedSimpArgs false
theorem held_tells (w : Int) : mastheadref01_Held.f w = some (wid w : Int) := by
  unfold mastheadref01_Held.f wid mn mx
  repeat' split
  all_goals first | omega | (simp <;> omega)
theorem value_loop (xs : List Int) (hb : ∀ x ∈ xs, 0 ≤ x ∧ x < 256) (hl : xs.length ≤ 8) (i : Nat) : ∀ (k : Nat), i ≤ xs.length → i < k →
    mastheadref01_Value.l0 k xs (val (xs.drop i)) ((i : Int) - 1) = some (val xs) := by
  induction i with
  | zero =>
    intro k hi hk
    obtain ⟨k, rfl⟩ : ∃ m, k = m + 1 := ⟨k - 1, by omega⟩
    simp only [mastheadref01_Value.l0]
    rw [if_neg (by omega)]
    simp
  | succ i ih =>
    intro k hi hk
    obtain ⟨k, rfl⟩ : ∃ m, k = m + 1 := ⟨k - 1, by omega⟩
    have hil : i < xs.length := by omega
    simp only [mastheadref01_Value.l0]
    rw [show (((i + 1 : Nat) : Int) - 1) = (i : Int) from by omega]
    have x1 : rd xs (i : Int) = xs[i] := by simp [rd, hil]
    have hx := hb xs[i] (List.getElem_mem hil)
    have hv' := val_u64 (xs.drop i) (fun x h => hb x (List.mem_of_mem_drop h)) (by simp; omega)
    have ed : val (xs.drop i) = xs[i] + 256 * val (xs.drop (i + 1)) := by
      rw [List.drop_eq_getElem_cons hil]
      rfl
    have hv := val_bounds (xs.drop (i + 1)) (fun x h => hb x (List.mem_of_mem_drop h))
    rw [if_pos (by omega), if_pos (by omega), if_pos (by omega), if_pos (by omega), x1]
    rw [u64w_id (n := val (xs.drop (i + 1)) * 256) (by omega) (by omega), u64w_id (n := xs[i]) (by omega) (by omega), u64w_id (by omega) (by omega)]
    rw [show val (xs.drop (i + 1)) * 256 + xs[i] = val (xs.drop i) from by omega, wrap64_id (by omega) (by omega)]
    exact ih k (by omega) (by omega)
theorem value_tells (xs : List Int) (hb : ∀ x ∈ xs, 0 ≤ x ∧ x < 256) (hl : xs.length ≤ 8) (k : Nat) (hk : 10 ≤ k) : mastheadref01_Value.f k xs = some (val xs) := by
  unfold mastheadref01_Value.f
  have := value_loop xs hb hl xs.length k (Nat.le_refl _) (by omega)
  rw [wrap64_id (by omega) (by omega)]
  simpa [val] using this
theorem str_append (a b : List Int) : strOfNums (a ++ b) = strOfNums a ++ strOfNums b := by
  apply ByteArray.ext
  simp [strOfNums, ByteArray.data_append]
theorem str_extract (l : List Int) (a b : Nat) : (strOfNums l).extract a b = strOfNums ((l.drop a).take (b - a)) := by
  apply ByteArray.ext
  apply Array.toList_inj.1
  simp [strOfNums, ByteArray.data_extract, List.extract_eq_take_drop]
theorem str_inj {a b : List Int} (ha : ∀ x ∈ a, 0 ≤ x ∧ x < 256) (hb : ∀ x ∈ b, 0 ≤ x ∧ x < 256) (h : strOfNums a = strOfNums b) : a = b := by
  have h1 : (strOfNums a).data.toList = (strOfNums b).data.toList := by rw [h]
  rw [strOfNums_data, strOfNums_data] at h1
  have hlen : a.length = b.length := by simpa using congrArg List.length h1
  apply List.ext_getElem hlen
  intro i h2 h3
  have h4 : (a.map fun n => UInt8.ofNat n.toNat)[i]'(by simpa using h2) = (b.map fun n => UInt8.ofNat n.toNat)[i]'(by simpa using h3) := by simp only [h1]
  simp only [List.getElem_map] at h4
  have h5 := congrArg UInt8.toNat h4
  have ba := ha a[i] (List.getElem_mem _)
  have bb := hb b[i] (List.getElem_mem _)
  simp only [UInt8.toNat_ofNat'] at h5
  omega
theorem rtake_tells (xs : List Int) (e n : Int) (hl : xs.length ≤ 1000000) : mastheadref06_Take.f (strOfNums xs) e n = some (strOfNums (xs.drop (takeR xs 0 e n).2.1), (takeR xs 0 e n).2.2, strOfNums (takeR xs 0 e n).1) := by
  have hs := strOfNums_size xs
  have e0 : strOfNums ([] : List Int) = (⟨#[]⟩ : ByteArray) := rfl
  by_cases c1 : e = 0
  · by_cases c2 : n < 0
    · have ht : takeR xs 0 e n = ([], 0, 0) := by
        unfold takeR
        rw [if_neg (by omega), if_neg (by omega), show n.toNat = 0 from by omega]
        simp
      rw [ht]
      unfold mastheadref06_Take.f
      rw [if_pos c1, if_pos c2, if_neg (by omega), if_pos (by omega), if_pos (by omega)]
      simp [str_extract, e0]
      rfl
    · by_cases c3 : (xs.length : Int) < n
      · have ht : takeR xs 0 e n = ([], 0, 2) := by
          unfold takeR
          rw [if_neg (by omega), if_pos (by omega)]
        rw [ht]
        unfold mastheadref06_Take.f
        rw [if_pos c1, if_neg c2, if_pos (by omega)]
        simp [e0]
      · have ht : takeR xs 0 e n = (xs.take n.toNat, n.toNat, 0) := by
          unfold takeR
          rw [if_neg (by omega), if_neg (by omega)]
          simp
        rw [ht]
        unfold mastheadref06_Take.f
        rw [if_pos c1, if_neg c2, if_neg (by omega), if_pos (by omega), if_pos (by omega)]
        simp only [str_extract, hs]
        simp
        rw [List.take_of_length_le (by simp)]
  · have ht : takeR xs 0 e n = ([], 0, e) := by
      unfold takeR
      rw [if_pos c1]
    rw [ht]
    unfold mastheadref06_Take.f
    rw [if_neg c1]
    simp [e0]
end Go.Proofs.Ytefnpecncacepaa.Hand
