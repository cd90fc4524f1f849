/- Numbers as ones, a nought and bits: plain laws of what the document's functions compute. -/
import Derived.Test.YtakpohcobpbjkaaBitRef
namespace Go.Proofs.Ytakpohcobpbjkaa.Hand
open Go Go.RowKit Go.Proofs.Ytakpohcobpbjkaa.Plain Go.Proofs.Ytakpohcobpbjkaa.PAll Go.Proofs.YtakpohcobpbjkaaW.PrintWords Go.Proofs.YtakpohcobpbjkaaW.PrintLast Go.Proofs.YtakpohcobpbjkaaW.PrintMore
set_option linter.unusedVariables false
set_option linter.unusedSimpArgs false
/-- A width within its bounds. -/
def hp (p : Int) : Nat := (mn (mx p 0) 32).toNat
theorem hp_cast (p : Int) : mn (mx p 0) 32 = (hp p : Int) := by unfold hp mn mx; repeat' split <;> omega
theorem hp_le (p : Int) : hp p ≤ 32 := by unfold hp mn mx; repeat' split <;> omega
theorem held_ref (p : Int) : mastheadref12_Held.f p = some (hp p : Int) := by
  rw [← hp_cast]
  unfold mastheadref12_Held.f mn mx
  repeat' split
  all_goals first | rfl | (congr 1; omega) | omega
theorem held_rice (p : Int) : rice_held.f p = some (hp p : Int) := by rw [← hp_cast]; rfl
theorem q_lt (p : Int) (n : Nat) : n / 2 ^ hp p ≤ n := Nat.div_le_self _ _
theorem ones_ref_loop (p : Int) (n : Nat) (hn : n < 18446744073709551616) (d : Nat) : ∀ (k i : Nat), i + d = hp p → d < k → mastheadref12_Ones.l0 k p ((n / 2 ^ i : Nat) : Int) (i : Int) = some ((n / 2 ^ hp p : Nat) : Int) := by
  have hle := hp_le p
  induction d with
  | zero =>
    intro k i hi hk
    obtain ⟨k, rfl⟩ : ∃ m, k = m + 1 := ⟨k - 1, by omega⟩
    simp only [mastheadref12_Ones.l0]
    rw [held_ref, Option.bind_some, if_neg (by omega), show i = hp p from by omega]
  | succ d ih =>
    intro k i hi hk
    obtain ⟨k, rfl⟩ : ∃ m, k = m + 1 := ⟨k - 1, by omega⟩
    simp only [mastheadref12_Ones.l0]
    have hlt : n / 2 ^ i ≤ n := Nat.div_le_self _ _
    have e1 : IntKind.u64.wrap (Int.tdiv ((n / 2 ^ i : Nat) : Int) 2) = ((n / 2 ^ (i + 1) : Nat) : Int) := by
      rw [tdiv2, u64w_id (Int.natCast_nonneg _) (by omega), Nat.div_div_eq_div_mul, ← Nat.pow_succ]
    rw [held_ref, Option.bind_some, if_pos (by omega), e1, wrap64_succ (by omega)]
    exact ih k (i + 1) (by omega) (by omega)
theorem ones_ref (p : Int) (n : Nat) (hn : n < 18446744073709551616) (k : Nat) (hk : 40 ≤ k) : mastheadref12_Ones.f k p (n : Int) = some ((n / 2 ^ hp p : Nat) : Int) := by
  have hle := hp_le p
  have := ones_ref_loop p n hn (hp p) k 0 (by omega) (by omega)
  simpa [mastheadref12_Ones.f] using this
/-- A number's ones, its nought, its bits. -/
def riceCode (p : Int) (n : Nat) : List Bool := (List.replicate (n / 2 ^ hp p) true ++ [false]) ++ bitsOf n (hp p)
theorem riceCode_length (p : Int) (n : Nat) : (riceCode p n).length = n / 2 ^ hp p + 1 + hp p := by simp [riceCode, bitsOf_length]; omega
theorem bits_ref_big (p : Int) (n : Nat) (hn : n < 18446744073709551616) (hq : 65536 < n / 2 ^ hp p) (k : Nat) (hk : 40 ≤ k) : mastheadref12_Bits.f k p (n : Int) = some (⟨#[]⟩, false) := by
  unfold mastheadref12_Bits.f
  rw [ones_ref p n hn k hk, Option.bind_some, if_pos (by omega)]
theorem bits_ref (p : Int) (n : Nat) (hn : n < 18446744073709551616) (hq : n / 2 ^ hp p ≤ 65536) (k : Nat) (hk : n / 2 ^ hp p + 70 ≤ k) : mastheadref12_Bits.f k p (n : Int) = some (txt (riceCode p n), true) := by
  have hle := hp_le p
  have hone := fun hk => ones_ref p n hn k hk
  unfold mastheadref12_Bits.f riceCode
  generalize n / 2 ^ hp p = q at *
  rw [hone (by omega), Option.bind_some, if_neg (by omega), wrap64_nat (by omega), ones_tells _ (by omega) k (by omega), Option.bind_some]
  have e0 : txt (List.replicate (q) true) ++ (⟨#[48]⟩ : ByteArray) = txt (List.replicate (q) true ++ [false]) := by
    rw [show (⟨#[48]⟩ : ByteArray) = txt [false] from rfl, txt_append]
  rw [if_pos (by rw [txt_size]; simp; omega), held_ref, Option.bind_some, bits_tells n hn (hp p) (by omega) k (by omega), Option.bind_some, e0, if_pos (by rw [txt_size, txt_size, bitsOf_length]; simp; omega), txt_append]
theorem shr64 (n q : Nat) (hq : q ≤ 64) : shr .u64 (n : Int) (q : Int) = ((n / 2 ^ q : Nat) : Int) := by
  unfold shr
  rw [Int.toNat_natCast, show min q (IntKind.u64.bits) = q from Nat.min_eq_left hq]
  simp
theorem size_rice (p : Int) (n : Nat) (hn : n < 18446744073709551616) : rice_Size.f p (n : Int) = some (if 18446744073709551615 < n / 2 ^ hp p + (hp p + 1) then (18446744073709551615 : Int) else ((n / 2 ^ hp p + (hp p + 1) : Nat) : Int)) := by
  have hle := hp_le p
  have hq := q_lt p n
  have hsh := shr64 n (hp p) (by omega)
  unfold rice_Size.f
  generalize n / 2 ^ hp p = q at *
  rw [held_rice, Option.bind_some, if_pos (by omega), hsh, u64w_id (n := ((hp p : Nat) : Int)) (by omega) (by omega), u64w_id (n := ((hp p : Nat) : Int) + 1) (by omega) (by omega), u64w_id (n := 18446744073709551615 - (((hp p : Nat) : Int) + 1)) (by omega) (by omega)]
  by_cases h : 18446744073709551615 < q + (hp p + 1)
  · rw [if_pos (by omega), if_pos h]
  · rw [if_neg (by omega), if_neg h, u64w_id (by omega) (by omega)]
    congr 1
end Go.Proofs.Ytakpohcobpbjkaa.Hand
