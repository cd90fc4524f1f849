/- What the codec's reader computes, over lists of bytes. -/
import Derived.Test.YtfcmdhimlfoofaaOctet
namespace Go.Proofs.Ytfcmdhimlfoofaa.Hand
open Go Go.RowKit Go.Proofs.Ytfcmdhimlfoofaa.Plain Go.Proofs.Ytfcmdhimlfoofaa.PAll Go.Proofs.YtfcmdhimlfoofaaW.PrintWords Go.Proofs.YtfcmdhimlfoofaaW.PrintLast Go.Proofs.YtfcmdhimlfoofaaW.PrintMore
set_option linter.unusedVariables false
set_option linter.unusedSimpArgs false
/-- A take of n bytes: what is taken, the place, the error. -/
def takeR (bs : List Int) (p : Nat) (e n : Int) : List Int × Nat × Int := if e ≠ 0 then ([], p, e) else if (bs.length : Int) - p < n then ([], p, 2) else ((bs.drop p).take n.toNat, p + n.toNat, 0)
def numR (bs : List Int) (p : Nat) (e a : Int) : Int × Nat × Int := (val (takeR bs p e (wid a : Nat)).1, (takeR bs p e (wid a : Nat)).2)
/-- The spelling that a count's first byte tells: its number, the least that it may be, the place, the error. -/
def spell2 (bs : List Int) (x : Int × Nat × Int) : Int × Int × Nat × Int :=
  if x.1 = 253 then ((numR bs x.2.1 x.2.2 2).1, 253, (numR bs x.2.1 x.2.2 2).2)
  else if x.1 = 254 then ((numR bs x.2.1 x.2.2 4).1, 65536, (numR bs x.2.1 x.2.2 4).2)
  else if x.1 = 255 then ((numR bs x.2.1 x.2.2 8).1, 4294967296, (numR bs x.2.1 x.2.2 8).2)
  else (x.1, 0, x.2)
def spellR (bs : List Int) (p : Nat) (e : Int) : Int × Int × Nat × Int := spell2 bs (numR bs p e 1)
def var2 (p : Nat) (most : Int) (x : Int × Int × Nat × Int) : Int × Nat × Int := if x.2.2.2 ≠ 0 then (0, p, x.2.2.2) else if x.1 < x.2.1 then (0, p, 3) else if most < x.1 then (0, p, 4) else (x.1, x.2.2.1, 0)
def varR (bs : List Int) (p : Nat) (e most : Int) : Int × Nat × Int := var2 p most (spellR bs p e)
def text2 (p : Nat) (x : List Int × Nat × Int) : List Int × Nat × Int := if x.2.2 ≠ 0 then ([], p, x.2.2) else x
def textR (bs : List Int) (p : Nat) (e most : Int) : List Int × Nat × Int := text2 p (takeR bs (varR bs p e (mx most 0)).2.1 (varR bs p e (mx most 0)).2.2 (varR bs p e (mx most 0)).1)
def endR (bs : List Int) (p : Nat) (e : Int) : Int := if e = 0 ∧ p < bs.length then 3 else e
theorem takeR_le {bs : List Int} {p : Nat} (hp : p ≤ bs.length) (e n : Int) : (takeR bs p e n).2.1 ≤ bs.length := by
  unfold takeR
  split
  · exact hp
  · split
    · exact hp
    · simp only; omega
theorem takeR_bytes {bs : List Int} (hb : ∀ x ∈ bs, 0 ≤ x ∧ x < 256) (p : Nat) (e n : Int) : ∀ x ∈ (takeR bs p e n).1, 0 ≤ x ∧ x < 256 := by
  unfold takeR
  split
  · simp
  · split
    · simp
    · intro x hx
      exact hb x (List.mem_of_mem_drop (List.mem_of_mem_take hx))
theorem takeR_len (bs : List Int) (p : Nat) (e n : Int) : (takeR bs p e n).1.length ≤ n.toNat := by
  unfold takeR
  split
  · simp
  · split
    · simp
    · simp only [List.length_take]; omega
theorem takeR_err (bs : List Int) (p : Nat) (e n : Int) : (takeR bs p e n).2.2 = 0 ∨ (takeR bs p e n).1 = [] ∧ (takeR bs p e n).2.1 = p := by
  unfold takeR
  split
  · exact .inr ⟨rfl, rfl⟩
  · split
    · exact .inr ⟨rfl, rfl⟩
    · exact .inl rfl
theorem numR_le {bs : List Int} {p : Nat} (hp : p ≤ bs.length) (e a : Int) : (numR bs p e a).2.1 ≤ bs.length := takeR_le hp e _
theorem numR_u64 {bs : List Int} (hb : ∀ x ∈ bs, 0 ≤ x ∧ x < 256) (p : Nat) (e a : Int) : 0 ≤ (numR bs p e a).1 ∧ (numR bs p e a).1 < 18446744073709551616 := by
  have h1 := takeR_len bs p e (wid a : Nat)
  have h2 := wid_le a
  exact val_u64 _ (takeR_bytes hb p e _) (by omega)
theorem spell2_le {bs : List Int} {x : Int × Nat × Int} (hp : x.2.1 ≤ bs.length) : (spell2 bs x).2.2.1 ≤ bs.length := by
  unfold spell2
  split
  · exact numR_le hp _ _
  · split
    · exact numR_le hp _ _
    · split
      · exact numR_le hp _ _
      · exact hp
theorem spell2_u64 {bs : List Int} (hb : ∀ x ∈ bs, 0 ≤ x ∧ x < 256) {x : Int × Nat × Int} (hx : 0 ≤ x.1 ∧ x.1 < 18446744073709551616) : 0 ≤ (spell2 bs x).1 ∧ (spell2 bs x).1 < 18446744073709551616 := by
  unfold spell2
  split
  · exact numR_u64 hb _ _ _
  · split
    · exact numR_u64 hb _ _ _
    · split
      · exact numR_u64 hb _ _ _
      · exact hx
theorem spellR_le {bs : List Int} {p : Nat} (hp : p ≤ bs.length) (e : Int) : (spellR bs p e).2.2.1 ≤ bs.length := spell2_le (numR_le hp _ _)
theorem spellR_u64 {bs : List Int} (hb : ∀ x ∈ bs, 0 ≤ x ∧ x < 256) (p : Nat) (e : Int) : 0 ≤ (spellR bs p e).1 ∧ (spellR bs p e).1 < 18446744073709551616 := spell2_u64 hb (numR_u64 hb _ _ _)
theorem var2_le {L p : Nat} (hp : p ≤ L) (most : Int) {x : Int × Int × Nat × Int} (hx : x.2.2.1 ≤ L) : (var2 p most x).2.1 ≤ L := by
  unfold var2
  repeat' split
  all_goals assumption
theorem var2_u64 {p : Nat} {most : Int} (hm : 0 ≤ most) {x : Int × Int × Nat × Int} (hx : 0 ≤ x.1 ∧ x.1 < 18446744073709551616) : 0 ≤ (var2 p most x).1 ∧ (var2 p most x).1 ≤ most ∧ (var2 p most x).1 < 18446744073709551616 := by
  unfold var2
  split
  · exact ⟨Int.le_refl 0, hm, (by decide : (0 : Int) < 18446744073709551616)⟩
  · split
    · exact ⟨Int.le_refl 0, hm, (by decide : (0 : Int) < 18446744073709551616)⟩
    · split
      · exact ⟨Int.le_refl 0, hm, (by decide : (0 : Int) < 18446744073709551616)⟩
      · exact ⟨hx.1, by simp only; omega, hx.2⟩
theorem var2_err (p : Nat) (most : Int) (x : Int × Int × Nat × Int) : (var2 p most x).2.2 = 0 ∨ (var2 p most x).1 = 0 ∧ (var2 p most x).2.1 = p := by
  unfold var2
  split
  · exact .inr ⟨rfl, rfl⟩
  · split
    · exact .inr ⟨rfl, rfl⟩
    · split
      · exact .inr ⟨rfl, rfl⟩
      · exact .inl rfl
theorem varR_le {bs : List Int} {p : Nat} (hp : p ≤ bs.length) (e most : Int) : (varR bs p e most).2.1 ≤ bs.length := var2_le hp most (spellR_le hp e)
theorem varR_u64 {bs : List Int} (hb : ∀ x ∈ bs, 0 ≤ x ∧ x < 256) (p : Nat) (e : Int) {most : Int} (hm : 0 ≤ most) : 0 ≤ (varR bs p e most).1 ∧ (varR bs p e most).1 ≤ most ∧ (varR bs p e most).1 < 18446744073709551616 := var2_u64 hm (spellR_u64 hb p e)
theorem varR_err (bs : List Int) (p : Nat) (e most : Int) : (varR bs p e most).2.2 = 0 ∨ (varR bs p e most).1 = 0 ∧ (varR bs p e most).2.1 = p := var2_err _ _ _
theorem textR_le {bs : List Int} {p : Nat} (hp : p ≤ bs.length) (e most : Int) : (textR bs p e most).2.1 ≤ bs.length := by
  unfold textR text2
  split
  · exact hp
  · exact takeR_le (varR_le hp _ _) _ _
theorem textR_bytes {bs : List Int} (hb : ∀ x ∈ bs, 0 ≤ x ∧ x < 256) (p : Nat) (e most : Int) : ∀ x ∈ (textR bs p e most).1, 0 ≤ x ∧ x < 256 := by
  unfold textR text2
  split
  · simp
  · exact takeR_bytes hb _ _ _
end Go.Proofs.Ytfcmdhimlfoofaa.Hand
