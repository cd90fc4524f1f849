/- Plain lemmas on numbers, bytes and lists: no program in sight. -/
import Derived.Laws.BitsLemmas
import Derived.Lib.EndianBits
import Derived.Laws.BytesArg
import Derived.IntWalk
import Derived.OpenShut
import Derived.Test.YtfcmdhimlfoofaaWWords
import Derived.Test.YtfcmdhimlfoofaaWMore
namespace Go.Proofs.Ytfcmdhimlfoofaa.Plain
open Go Go.RowKit Go.Proofs.YtfcmdhimlfoofaaW.PrintWords Go.Proofs.YtfcmdhimlfoofaaW.PrintMore
set_option linter.unusedVariables false

theorem wrap64_id {n : Int} (h0 : -9223372036854775808 ≤ n) (h1 : n ≤ 9223372036854775807) : wrap64 n = n := by unfold wrap64; omega
theorem wrap64_nat {n : Nat} (h1 : n ≤ 9223372036854775807) : wrap64 (n : Int) = n := wrap64_id (by omega) (by omega)
theorem wrap64_succ {n : Nat} (h1 : n < 9223372036854775807) : wrap64 ((n : Int) + 1) = ((n + 1 : Nat) : Int) := by rw [wrap64_id (by omega) (by omega)]; simp
theorem u64w_id {n : Int} (h0 : 0 ≤ n) (h1 : n < 18446744073709551616) : IntKind.u64.wrap n = n := u64_wrap_id n h0 h1
theorem u32w_id {n : Int} (h0 : 0 ≤ n) (h1 : n < 4294967296) : IntKind.u32.wrap n = n := u32_wrap_id n h0 h1

theorem wf_u64 {a : Int} (h : (Lit.int .u64 a).wf = true) : ∃ n : Nat, a = n ∧ n < 18446744073709551616 := by
  have := bounds_u64 h
  exact ⟨a.toNat, by omega, by omega⟩
theorem wf_i64 {a : Int} (h : (Lit.int .i64 a).wf = true) : -9223372036854775808 ≤ a ∧ a ≤ 9223372036854775807 := by
  have := bounds_i64 h
  omega
theorem wf_u8s {l : List Int} (h : ∀ x ∈ l, (Lit.int .u8 x).wf = true) : ∀ x ∈ l, 0 ≤ x ∧ x < 256 := by
  intro x hx
  have := bounds_u8 (h x hx)
  omega

theorem two_pow_mono {i j : Nat} (h : i ≤ j) : (2 : Nat) ^ i ≤ 2 ^ j := Nat.pow_le_pow_right (by decide) h
theorem pow256 (i : Nat) : (256 : Nat) ^ i = 2 ^ (8 * i) := by rw [show (256 : Nat) = 2 ^ 8 from rfl, ← Nat.pow_mul]

theorem pow256i (i : Nat) : (256 : Int) ^ i = 2 ^ (8 * i) := by rw [show (256 : Int) = 2 ^ 8 from rfl, ← Int.pow_mul]

theorem take_set_succ (xs : List Int) (i : Nat) (v : Int) (h : i < xs.length) : (xs.set i v).take (i + 1) = xs.take i ++ [v] := by
  rw [List.take_succ_eq_append_getElem (by simpa using h)]
  simp [List.take_set_of_le]

/-- The lowest bytes, the lowest first. -/
def digs : Nat → Nat → List Int
  | 0, _ => []
  | d + 1, n => ((n % 256 : Nat) : Int) :: digs d (n / 256)
theorem digs_length : ∀ d n, (digs d n).length = d
  | 0, _ => rfl
  | d + 1, n => by simp [digs, digs_length d]
theorem digs_bytes : ∀ d n, ∀ x ∈ digs d n, 0 ≤ x ∧ x < 256
  | 0, _ => by simp [digs]
  | d + 1, n => by
    intro x hx
    simp only [digs, List.mem_cons] at hx
    rcases hx with rfl | hx
    · omega
    · exact digs_bytes d _ x hx

/-- The number of bytes, the lowest first. -/
def val : List Int → Int
  | [] => 0
  | x :: xs => x + 256 * val xs
theorem val_append : ∀ (a b : List Int), val (a ++ b) = val a + 256 ^ a.length * val b
  | [], b => by simp [val]
  | x :: a, b => by
    simp only [List.cons_append, val, val_append a b, List.length_cons, Int.pow_succ, Int.mul_add]
    rw [Int.mul_comm (256 ^ a.length) 256, Int.mul_assoc]
    omega
theorem val_bounds : ∀ (l : List Int), (∀ x ∈ l, 0 ≤ x ∧ x < 256) → 0 ≤ val l ∧ val l < 256 ^ l.length
  | [], _ => by simp [val]
  | x :: l, h => by
    have h1 := h x (by simp)
    have h2 := val_bounds l (fun y hy => h y (by simp [hy]))
    simp only [val, List.length_cons, Int.pow_succ]
    omega
theorem pow256_le {n : Nat} (h : n ≤ 8) : (256 : Int) ^ n ≤ 18446744073709551616 := by
  have h2 : (256 : Nat) ^ n ≤ 256 ^ 8 := Nat.pow_le_pow_right (by decide) h
  have h3 : (((256 : Nat) ^ n : Nat) : Int) ≤ ((256 ^ 8 : Nat) : Int) := Int.ofNat_le.2 h2
  simpa using h3
theorem val_u64 (l : List Int) (h : ∀ x ∈ l, 0 ≤ x ∧ x < 256) (hl : l.length ≤ 8) : 0 ≤ val l ∧ val l < 18446744073709551616 := by
  have := val_bounds l h
  have := pow256_le hl
  omega
theorem val_digs : ∀ d n, val (digs d n) = ((n % 256 ^ d : Nat) : Int)
  | 0, n => by simp [digs, val, Nat.mod_one]
  | d + 1, n => by
    simp only [digs, val, val_digs d]
    have : n % 256 ^ (d + 1) = n % 256 + 256 * (n / 256 % 256 ^ d) := by
      rw [Nat.pow_succ', Nat.mod_mul]
    omega

theorem shr_byte (n i : Nat) (h : i ≤ 8) : shr .u64 (n : Int) ((8 * i : Nat) : Int) = ((n / 256 ^ i : Nat) : Int) := by
  unfold shr
  rw [Nat.min_eq_left (by simp [IntKind.bits]; omega), pow256]
  simp only [Int.toNat_natCast]
  simp
theorem or64 (i : Nat) {x y : Int} (hy0 : 0 ≤ y) (hy : y < 2 ^ i) (hyu : y < 18446744073709551616) (hx0 : 0 ≤ x) (hx : x % 2 ^ i = 0) (hxu : x < 18446744073709551616) : Go.bits .or .u64 x y = x + y :=
  bits_join .u64 64 (by decide) wraps_u64 i x y hx0 hx (by simpa using hxu) hy0 hy (by simpa using hyu)
theorem or64' (i : Nat) {x y : Int} (hy0 : 0 ≤ y) (hy : y < 2 ^ i) (hyu : y < 18446744073709551616) (hx0 : 0 ≤ x) (hx : x % 2 ^ i = 0) (hxu : x < 18446744073709551616) : Go.bits .or .u64 y x = y + x :=
  bits_join_low .u64 64 (by decide) wraps_u64 i y x hy0 hy (by simpa using hyu) hx0 hx (by simpa using hxu)
theorem or32 (i : Nat) {x y : Int} (hy0 : 0 ≤ y) (hy : y < 2 ^ i) (hyu : y < 4294967296) (hx0 : 0 ≤ x) (hx : x % 2 ^ i = 0) (hxu : x < 4294967296) : Go.bits .or .u32 x y = x + y :=
  bits_join .u32 32 (by decide) wraps_u32 i x y hx0 hx (by simpa using hxu) hy0 hy (by simpa using hyu)
theorem or32' (i : Nat) {x y : Int} (hy0 : 0 ≤ y) (hy : y < 2 ^ i) (hyu : y < 4294967296) (hx0 : 0 ≤ x) (hx : x % 2 ^ i = 0) (hxu : x < 4294967296) : Go.bits .or .u32 y x = y + x :=
  bits_join_low .u32 32 (by decide) wraps_u32 i y x hy0 hy (by simpa using hyu) hx0 hx (by simpa using hxu)
end Go.Proofs.Ytfcmdhimlfoofaa.Plain
