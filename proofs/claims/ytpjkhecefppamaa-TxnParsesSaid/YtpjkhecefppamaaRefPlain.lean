/- What the document's functions of the codec compute, over lists of bytes. -/
import Derived.Test.YtpjkhecefppamaaCodecPlain
import Derived.Test.YtpjkhecefppamaaWriter
import Derived.Test.YtpjkhecefppamaaMAlln5
namespace Go.Proofs.Ytpjkhecefppamaa.Hand
open Go Go.RowKit Go.Proofs.Ytpjkhecefppamaa.Plain Go.Proofs.Ytpjkhecefppamaa.PAll Go.Proofs.YtpjkhecefppamaaW.PrintWords Go.Proofs.YtpjkhecefppamaaW.PrintLast Go.Proofs.YtpjkhecefppamaaW.PrintMore
set_option linter.unusedVariables false
set_option linter.unusedSimpArgs false
theorem digits_loop (d : Nat) : ∀ (k n : Nat) (w : Nat) (out : List Int) (i : Nat), n < 18446744073709551616 → w ≤ 8 → out.length ≤ i → i + d = w → d < k →
    mastheadref01_Digits.l0 k (n : Int) (w : Int) out (i : Int) = some (out ++ digs d n) := by
  induction d with
  | zero =>
    intro k n w out i hn hw ho hi hk
    obtain ⟨k, rfl⟩ : ∃ m, k = m + 1 := ⟨k - 1, by omega⟩
    simp only [mastheadref01_Digits.l0]
    rw [if_neg (by omega)]
    simp [digs]
  | succ d ih =>
    intro k n w out i hn hw ho hi hk
    obtain ⟨k, rfl⟩ : ∃ m, k = m + 1 := ⟨k - 1, by omega⟩
    simp only [mastheadref01_Digits.l0]
    have e1 : IntKind.u64.wrap (Int.tdiv (n : Int) 256) = ((n / 256 : Nat) : Int) := by
      have : Int.tdiv (n : Int) 256 = ((n / 256 : Nat) : Int) := by rw [Int.tdiv_eq_ediv_of_nonneg (by omega)]; simp
      rw [this, u64w_id (by omega) (by omega)]
    have e2 : wrap64 (Int.tmod (n : Int) 256) = ((n % 256 : Nat) : Int) := by
      rw [Int.tmod_eq_emod_of_nonneg (by omega), wrap64_id (by omega) (by omega)]; simp
    rw [if_pos (by omega), if_pos (by omega), e1, e2, wrap64_succ (by omega), ih k (n / 256) w _ (i + 1) (by omega) hw (by simp; omega) (by omega) (by omega)]
    simp [digs]
theorem held_tells (w : Int) : mastheadref01_Held.f w = some (wid w : Int) := by
  unfold mastheadref01_Held.f wid mn mx
  repeat' split
  all_goals first | omega | (simp <;> omega)
theorem value_loop (xs : List Int) (hb : ∀ x ∈ xs, 0 ≤ x ∧ x < 256) (hl : xs.length ≤ 8) (i : Nat) : ∀ (k : Nat), i ≤ xs.length → i < k →
    mastheadref01_Value.l0 k xs (val (xs.drop i)) ((i : Int) - 1) = some (val xs) := by
  induction i with
  | zero =>
    intro k hi hk
    obtain ⟨k, rfl⟩ : ∃ m, k = m + 1 := ⟨k - 1, by omega⟩
    simp only [mastheadref01_Value.l0]
    rw [if_neg (by omega)]
    simp
  | succ i ih =>
    intro k hi hk
    obtain ⟨k, rfl⟩ : ∃ m, k = m + 1 := ⟨k - 1, by omega⟩
    have hil : i < xs.length := by omega
    simp only [mastheadref01_Value.l0]
    rw [show (((i + 1 : Nat) : Int) - 1) = (i : Int) from by omega]
    have x1 : rd xs (i : Int) = xs[i] := by simp [rd, hil]
    have hx := hb xs[i] (List.getElem_mem hil)
    have hv' := val_u64 (xs.drop i) (fun x h => hb x (List.mem_of_mem_drop h)) (by simp; omega)
    have ed : val (xs.drop i) = xs[i] + 256 * val (xs.drop (i + 1)) := by
      rw [List.drop_eq_getElem_cons hil]
      rfl
    have hv := val_bounds (xs.drop (i + 1)) (fun x h => hb x (List.mem_of_mem_drop h))
    rw [if_pos (by omega), if_pos (by omega), if_pos (by omega), if_pos (by omega), x1]
    rw [u64w_id (n := val (xs.drop (i + 1)) * 256) (by omega) (by omega), u64w_id (n := xs[i]) (by omega) (by omega), u64w_id (by omega) (by omega)]
    rw [show val (xs.drop (i + 1)) * 256 + xs[i] = val (xs.drop i) from by omega, wrap64_id (by omega) (by omega)]
    exact ih k (by omega) (by omega)
theorem value_tells (xs : List Int) (hb : ∀ x ∈ xs, 0 ≤ x ∧ x < 256) (hl : xs.length ≤ 8) (k : Nat) (hk : 10 ≤ k) : mastheadref01_Value.f k xs = some (val xs) := by
  unfold mastheadref01_Value.f
  have := value_loop xs hb hl xs.length k (Nat.le_refl _) (by omega)
  rw [wrap64_id (by omega) (by omega)]
  simpa [val] using this
theorem str_append (a b : List Int) : strOfNums (a ++ b) = strOfNums a ++ strOfNums b := by
  apply ByteArray.ext
  simp [strOfNums, ByteArray.data_append]
theorem str_extract (l : List Int) (a b : Nat) : (strOfNums l).extract a b = strOfNums ((l.drop a).take (b - a)) := by
  apply ByteArray.ext
  apply Array.toList_inj.1
  simp [strOfNums, ByteArray.data_extract, List.extract_eq_take_drop]
theorem str_inj {a b : List Int} (ha : ∀ x ∈ a, 0 ≤ x ∧ x < 256) (hb : ∀ x ∈ b, 0 ≤ x ∧ x < 256) (h : strOfNums a = strOfNums b) : a = b := by
  have h1 : (strOfNums a).data.toList = (strOfNums b).data.toList := by rw [h]
  rw [strOfNums_data, strOfNums_data] at h1
  have hlen : a.length = b.length := by simpa using congrArg List.length h1
  apply List.ext_getElem hlen
  intro i h2 h3
  have h4 : (a.map fun n => UInt8.ofNat n.toNat)[i]'(by simpa using h2) = (b.map fun n => UInt8.ofNat n.toNat)[i]'(by simpa using h3) := by simp only [h1]
  simp only [List.getElem_map] at h4
  have h5 := congrArg UInt8.toNat h4
  have ba := ha a[i] (List.getElem_mem _)
  have bb := hb b[i] (List.getElem_mem _)
  simp only [UInt8.toNat_ofNat'] at h5
  omega
theorem digits_tells (n : Nat) (w : Nat) (hn : n < 18446744073709551616) (hw : w ≤ 8) (k : Nat) (hk : 10 ≤ k) : mastheadref01_Digits.f k (n : Int) (w : Int) = some (digs w n) := by
  unfold mastheadref01_Digits.f
  have := digits_loop w k n w [] 0 hn hw (by simp) (by omega) (by omega)
  simpa using this
theorem rnum_loop (ds : List Int) (hb : ∀ x ∈ ds, 0 ≤ x ∧ x < 256) (hl : ds.length ≤ 8) (d : Nat) : ∀ (k i : Nat), i + d = ds.length → d < k →
    mastheadref06_Num.l0 k (ds.take i) ds (ds.length : Int) (i : Int) = some (strOfNums ds) := by
  induction d with
  | zero =>
    intro k i hi hk
    obtain ⟨k, rfl⟩ : ∃ m, k = m + 1 := ⟨k - 1, by omega⟩
    simp only [mastheadref06_Num.l0]
    rw [if_neg (by omega), List.take_of_length_le (by omega)]
  | succ d ih =>
    intro k i hi hk
    obtain ⟨k, rfl⟩ : ∃ m, k = m + 1 := ⟨k - 1, by omega⟩
    have hil : i < ds.length := by omega
    simp only [mastheadref06_Num.l0]
    have x1 : rd ds (i : Int) = ds[i] := by simp [rd, hil]
    have hx := hb ds[i] (List.getElem_mem hil)
    rw [if_pos (by omega), if_pos (by omega), if_pos (by omega), if_pos (by simp; omega), x1, wrap64_succ (by omega)]
    have e : ds.take i ++ [ds[i] % 256] = ds.take (i + 1) := by
      rw [List.take_succ_eq_append_getElem hil, Int.emod_eq_of_lt hx.1 hx.2]
    rw [e]
    exact ih k (i + 1) (by omega) (by omega)
theorem rnum_tells (n : Nat) (a : Int) (hn : n < 18446744073709551616) (k : Nat) (hk : 10 ≤ k) : mastheadref06_Num.f k (n : Int) a = some (strOfNums (digs (wid a) n)) := by
  unfold mastheadref06_Num.f
  have hw := wid_le a
  rw [held_tells]
  simp only [Option.bind_some]
  rw [digits_tells n (wid a) hn hw k hk]
  simp only [Option.bind_some]
  have := rnum_loop (digs (wid a) n) (digs_bytes _ _) (by rw [digs_length]; exact hw) (digs (wid a) n).length k 0 (by omega) (by rw [digs_length]; omega)
  simpa using this
theorem rvar_tells (n : Nat) (hn : n < 18446744073709551616) (k : Nat) (hk : 10 ≤ k) : mastheadref06_Var.f k (n : Int) = some (strOfNums (varB n)) := by
  unfold mastheadref06_Var.f varB
  by_cases c1 : n < 253
  · rw [if_pos (by omega), if_pos c1, rnum_tells n 1 hn k hk]; rfl
  · rw [if_neg (by omega), if_neg c1]
    by_cases c2 : n ≤ 65535
    · rw [if_pos (by omega), if_pos c2, rnum_tells n 2 hn k hk]
      simp only [Option.bind_some]
      rw [if_pos (by rw [strOfNums_size, digs_length]; have := wid_le 2; omega), str_append]
      rfl
    · rw [if_neg (by omega), if_neg c2]
      by_cases c3 : n ≤ 4294967295
      · rw [if_pos (by omega), if_pos c3, rnum_tells n 4 hn k hk]
        simp only [Option.bind_some]
        rw [if_pos (by rw [strOfNums_size, digs_length]; have := wid_le 4; omega), str_append]
        rfl
      · rw [if_neg (by omega), if_neg c3, rnum_tells n 8 hn k hk]
        simp only [Option.bind_some]
        rw [if_pos (by rw [strOfNums_size, digs_length]; have := wid_le 8; omega), str_append]
        rfl
theorem rtake_tells (xs : List Int) (e n : Int) (hl : xs.length ≤ 1000000) : mastheadref06_Take.f (strOfNums xs) e n = some (strOfNums (xs.drop (takeR xs 0 e n).2.1), (takeR xs 0 e n).2.2, strOfNums (takeR xs 0 e n).1) := by
  have hs := strOfNums_size xs
  have e0 : strOfNums ([] : List Int) = (⟨#[]⟩ : ByteArray) := rfl
  by_cases c1 : e = 0
  · by_cases c2 : n < 0
    · have ht : takeR xs 0 e n = ([], 0, 0) := by
        unfold takeR
        rw [if_neg (by omega), if_neg (by omega), show n.toNat = 0 from by omega]
        simp
      rw [ht]
      unfold mastheadref06_Take.f
      rw [if_pos c1, if_pos c2, if_neg (by omega), if_pos (by omega), if_pos (by omega)]
      simp [str_extract, e0]
      rfl
    · by_cases c3 : (xs.length : Int) < n
      · have ht : takeR xs 0 e n = ([], 0, 2) := by
          unfold takeR
          rw [if_neg (by omega), if_pos (by omega)]
        rw [ht]
        unfold mastheadref06_Take.f
        rw [if_pos c1, if_neg c2, if_pos (by omega)]
        simp [e0]
      · have ht : takeR xs 0 e n = (xs.take n.toNat, n.toNat, 0) := by
          unfold takeR
          rw [if_neg (by omega), if_neg (by omega)]
          simp
        rw [ht]
        unfold mastheadref06_Take.f
        rw [if_pos c1, if_neg c2, if_neg (by omega), if_pos (by omega), if_pos (by omega)]
        simp only [str_extract, hs]
        simp
        rw [List.take_of_length_le (by simp)]
  · have ht : takeR xs 0 e n = ([], 0, e) := by
      unfold takeR
      rw [if_pos c1]
    rw [ht]
    unfold mastheadref06_Take.f
    rw [if_neg c1]
    simp [e0]
end Go.Proofs.Ytpjkhecefppamaa.Hand
