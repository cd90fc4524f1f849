/- Words turned to the right: plain. -/
import Derived.Test.YtefnpecncacepaaDoorProg
import Derived.Below
import Derived.Deep.Draws
import Derived.Deep.AppendLies
import Derived.Maps.AppendAt
import Derived.OwnWalk
import Derived.Laws.BytesArg
import Derived.Laws.MakeOwn
import Derived.Laws.OwnMore
import Derived.Deep.OwnRows
import Derived.Tactics
import Derived.Lib.ConvBytes
import Derived.Laws.Slices
import Derived.WalkKit
import Derived.KernelRfl
import Derived.RowKit3
import Derived.Deep.LoopGhost
import Derived.Deep.QuietTactic
import Derived.BigQuiet
import Derived.WideLaws
import Derived.Deep.DeepCutAuto
import Derived.Deep.CutBlock
import Derived.Deep.RegionHeld3
import Derived.Laws.Rows
import Derived.Lib.AppendStr
import Derived.ArgAppend
import Derived.Laws.IdiomCopy
import Derived.OrdersHeld
import Derived.Laws.BitsLemmas
import Derived.RowKit
import Derived.StillTailTactics
import Derived.Test.YtefnpecncacepaaDoorWWords
import Derived.Test.YtefnpecncacepaaDoorWLast
import Derived.Test.YtefnpecncacepaaDoorWMore
import Derived.Lib.Hide
import Derived.Test.YtefnpecncacepaaDoorMAlln0
import Derived.Test.YtefnpecncacepaaDoorMAlln1
import Derived.Test.YtefnpecncacepaaDoorMAlln2
import Derived.Test.YtefnpecncacepaaDoorPlain
namespace Go.Proofs.YtefnpecncacepaaDoor.Hand
open Go Go.RowKit Go.Proofs.YtefnpecncacepaaDoor.Plain Go.Proofs.YtefnpecncacepaaDoor.PAll Go.Proofs.YtefnpecncacepaaDoorW.PrintWords Go.Proofs.YtefnpecncacepaaDoorW.PrintLast Go.Proofs.YtefnpecncacepaaDoorW.PrintMore
set_option linter.unusedVariables false
set_option linter.unusedSimpArgs false
set_option maxRecDepth 100000
def rot (N s x : Nat) : Nat := x % 2 ^ (N - s) * 2 ^ s + x / 2 ^ (N - s)
theorem divmod_of {r c M e : Nat} (h : r = c * M + e) (he : e < M) : r / M = c ∧ r % M = e := by
  subst h
  have hM : 0 < M := by omega
  constructor
  · rw [Nat.mul_comm, Nat.mul_add_div hM, Nat.div_eq_of_lt he]; omega
  · rw [Nat.mul_comm, Nat.mul_add_mod, Nat.mod_eq_of_lt he]
theorem split_pow {N s : Nat} (h : s ≤ N) : 2 ^ (N - s) * 2 ^ s = 2 ^ N := by rw [← Nat.pow_add]; congr 1; omega
theorem quo_lt {N s x : Nat} (h : s ≤ N) (hx : x < 2 ^ N) : x / 2 ^ (N - s) < 2 ^ s := by
  rw [Nat.div_lt_iff_lt_mul (Nat.two_pow_pos _), Nat.mul_comm, split_pow h]; exact hx
theorem rot_lt {N s x : Nat} (h : s ≤ N) (hx : x < 2 ^ N) : rot N s x < 2 ^ N := by
  have h1 := quo_lt h hx
  have h2 := Nat.mod_lt x (Nat.two_pow_pos (N - s))
  have h3 := split_pow h
  unfold rot
  have h4 : (x % 2 ^ (N - s) + 1) * 2 ^ s ≤ 2 ^ (N - s) * 2 ^ s := Nat.mul_le_mul_right _ h2
  rw [Nat.add_mul] at h4
  omega
theorem rot_zero (N x : Nat) (hx : x < 2 ^ N) : rot N 0 x = x := by
  unfold rot
  simp [Nat.div_eq_of_lt hx, Nat.mod_eq_of_lt hx]
theorem rot_back {N s x : Nat} (h : s ≤ N) (hx : x < 2 ^ N) : rot N (N - s) (rot N s x) = x := by
  have h1 := quo_lt h hx
  obtain ⟨e1, e2⟩ := divmod_of (r := rot N s x) rfl h1
  have hd := Nat.div_add_mod x (2 ^ (N - s))
  show rot N s x % 2 ^ (N - (N - s)) * 2 ^ (N - s) + rot N s x / 2 ^ (N - (N - s)) = x
  rw [show N - (N - s) = s from by omega, e1, e2, Nat.mul_comm]
  exact hd
theorem rot_forth {N s x : Nat} (h : s ≤ N) (hx : x < 2 ^ N) : rot N s (rot N (N - s) x) = x := by
  have := rot_back (N := N) (s := N - s) (x := x) (by omega) hx
  rwa [show N - (N - s) = s from by omega] at this
theorem rot_step {N i x : Nat} (h : i < N) (hx : x < 2 ^ N) : rot N i x % 2 ^ (N - 1) * 2 + rot N i x / 2 ^ (N - 1) = rot N (i + 1) x := by
  have hA : 2 ^ (N - i) = 2 ^ (N - (i + 1)) * 2 := by rw [← Nat.pow_succ]; congr 1; omega
  have hAB : 2 ^ (N - (i + 1)) * 2 ^ i = 2 ^ (N - 1) := by rw [← Nat.pow_add]; congr 1; omega
  have hq := quo_lt (s := i + 1) h hx
  have hd := Nat.mod_lt x (Nat.two_pow_pos (N - (i + 1)))
  have hx1 := Nat.div_add_mod x (2 ^ (N - (i + 1)))
  have hB : 2 ^ (i + 1) = 2 ^ i * 2 := Nat.pow_succ ..
  have e0 : rot N i x = (x / 2 ^ (N - (i + 1)) % 2) * 2 ^ (N - 1) + (x % 2 ^ (N - (i + 1)) * 2 ^ i + x / 2 ^ (N - (i + 1)) / 2) := by
    unfold rot
    rw [hA, ← Nat.div_div_eq_div_mul, Nat.mod_mul, Nat.add_mul, ← hAB]
    rw [Nat.mul_comm (2 ^ (N - (i + 1))) (x / 2 ^ (N - (i + 1)) % 2), Nat.mul_assoc]
    omega
  have hlt : x % 2 ^ (N - (i + 1)) * 2 ^ i + x / 2 ^ (N - (i + 1)) / 2 < 2 ^ (N - 1) := by
    have h4 : (x % 2 ^ (N - (i + 1)) + 1) * 2 ^ i ≤ 2 ^ (N - (i + 1)) * 2 ^ i := Nat.mul_le_mul_right _ hd
    rw [Nat.add_mul, hAB] at h4
    omega
  obtain ⟨e1, e2⟩ := divmod_of e0 hlt
  rw [e1, e2]
  unfold rot
  rw [hB, ← Nat.mul_assoc]
  omega
theorem shl32 (x s : Nat) (hs : s ≤ 32) : shl .u32 (x : Int) (s : Int) = ((x % 2 ^ (32 - s) * 2 ^ s : Nat) : Int) := by
  unfold shl
  rw [Nat.min_eq_left (by simp [IntKind.bits]; omega)]
  simp only [Int.toNat_natCast]
  rw [IntKind.wrap_u32, ← Nat.mul_mod_mul_right, split_pow hs]
  simp
theorem shl64 (x s : Nat) (hs : s ≤ 64) : shl .u64 (x : Int) (s : Int) = ((x % 2 ^ (64 - s) * 2 ^ s : Nat) : Int) := by
  unfold shl
  rw [Nat.min_eq_left (by simp [IntKind.bits]; omega)]
  simp only [Int.toNat_natCast]
  rw [IntKind.wrap_u64, ← Nat.mul_mod_mul_right, split_pow hs]
  simp
theorem shr32 (x s : Nat) (hs : s ≤ 32) : shr .u32 (x : Int) (s : Int) = ((x / 2 ^ s : Nat) : Int) := by
  unfold shr
  rw [Nat.min_eq_left (by simp [IntKind.bits]; omega)]
  simp
theorem shr64 (x s : Nat) (hs : s ≤ 64) : shr .u64 (x : Int) (s : Int) = ((x / 2 ^ s : Nat) : Int) := by
  unfold shr
  rw [Nat.min_eq_left (by simp [IntKind.bits]; omega)]
  simp
theorem high_lt {N s x : Nat} (h : s ≤ N) : x % 2 ^ (N - s) * 2 ^ s < 2 ^ N := by
  have hd := Nat.mod_lt x (Nat.two_pow_pos (N - s))
  rw [← split_pow h]
  exact Nat.mul_lt_mul_of_pos_right hd (Nat.two_pow_pos s)
/-- How many places a count stands for. -/
theorem places32 (a : Int) : ∃ s : Nat, s < 32 ∧ (s : Int) = a % 32 ∧ Int.tmod (IntKind.u64.wrap a) 32 = (s : Int) := by
  refine ⟨(a % 32).toNat, by omega, by omega, ?_⟩
  rw [IntKind.wrap_u64, Int.tmod_eq_emod_of_nonneg (by omega)]
  omega
theorem places64 (a : Int) : ∃ s : Nat, s < 64 ∧ (s : Int) = a % 64 ∧ Int.tmod (IntKind.u64.wrap a) 64 = (s : Int) := by
  refine ⟨(a % 64).toNat, by omega, by omega, ?_⟩
  rw [IntKind.wrap_u64, Int.tmod_eq_emod_of_nonneg (by omega)]
  omega
theorem right32_tells (x : Nat) (hx : x < 2 ^ 32) (a : Int) (s : Nat) (hs : s < 32) (ha : (s : Int) = a % 32) : octet_Right32.f (x : Int) a = some ((rot 32 (32 - s) x : Nat) : Int) := by
  obtain ⟨t, ht, hta, htm⟩ := places32 a
  obtain rfl : t = s := by omega
  unfold octet_Right32.f
  have e : IntKind.u64.wrap (32 - (t : Int)) = ((32 - t : Nat) : Int) := by rw [u64w_id (by omega) (by omega)]; omega
  rw [htm, if_pos (by omega), e, if_pos (by omega), shl32 x (32 - t) (by omega), shr32 x t (by omega)]
  have h1 := quo_lt (N := 32) (s := 32 - t) (by omega) hx
  have h2 := high_lt (N := 32) (s := 32 - t) (x := x) (by omega)
  have h3 : (2 : Nat) ^ (32 - t) ≤ 2 ^ 32 := two_pow_mono (by omega)
  have e3 : 32 - (32 - t) = t := by omega
  have h5 : rot 32 (32 - t) x = x % 2 ^ (32 - (32 - t)) * 2 ^ (32 - t) + x / 2 ^ (32 - (32 - t)) := rfl
  have h6 : (x % 2 ^ (32 - (32 - t)) * 2 ^ (32 - t)) % 2 ^ (32 - t) = 0 := Nat.mul_mod_left _ _
  rw [h5]
  rw [e3] at h1 h2 h6 ⊢
  generalize x % 2 ^ t * 2 ^ (32 - t) = B at *
  generalize x / 2 ^ t = A at *
  rw [or32' (32 - t) (by omega) (by exact_mod_cast h1) (by omega) (by omega) (by exact_mod_cast h6) (by omega)]
  simp [Int.add_comm]
/-- A word, turned to the right by k. -/
def rr (x k : Nat) : Nat := rot 32 (32 - k) x
theorem rr_lt {x k : Nat} (hx : x < 2 ^ 32) : rr x k < 2 ^ 32 := rot_lt (by omega) hx
theorem rr_step {x i : Nat} (hx : x < 2 ^ 32) (hi : i < 32) : rr x i / 2 + rr x i % 2 * 2147483648 = rr x (i + 1) := by
  have h1 := rot_lt (N := 32) (s := 32 - (i + 1)) (by omega) hx
  have h2 := rot_step (N := 32) (i := 32 - (i + 1)) (by omega) hx
  rw [show 32 - (i + 1) + 1 = 32 - i by omega] at h2
  unfold rr
  rw [← h2]
  generalize rot 32 (32 - (i + 1)) x = y at h1 ⊢
  simp only [show (2 : Nat) ^ (32 - 1) = 2147483648 from by decide]
  have : y < 4294967296 := h1
  omega
theorem rr_loop (x n : Nat) (hx : x < 2 ^ 32) (hn : n ≤ 32) : ∀ (m i k : Nat), i + m = n → mastheadref02_right.l0 (m + 1 + k) ((rr x i : Nat) : Int) (n : Int) (i : Int) = some ((rr x n : Nat) : Int)
  | 0, i, k, h => by
    rw [show 0 + 1 + k = k + 1 by omega]
    unfold mastheadref02_right.l0
    rw [if_neg (by omega), show i = n by omega]
  | m + 1, i, k, h => by
    have hlt := rr_lt (k := i) hx
    have hst := rr_step (i := i) hx (by omega)
    have hlt2 := rr_lt (k := i + 1) hx
    rw [show m + 1 + 1 + k = (m + 1 + k) + 1 by omega]
    unfold mastheadref02_right.l0
    have e : (((Int.tdiv ((rr x i : Nat) : Int) 2) % 4294967296) + (((Int.tmod ((rr x i : Nat) : Int) 2) * 2147483648) % 4294967296)) % 4294967296 = ((rr x (i + 1) : Nat) : Int) := by
      rw [Int.tdiv_eq_ediv_of_nonneg (by omega), Int.tmod_eq_emod_of_nonneg (by omega)]
      have h3 : rr x i < 4294967296 := hlt
      have h4 : rr x (i + 1) < 4294967296 := hlt2
      omega
    rw [if_pos (by omega), e, show wrap64 ((i : Int) + 1) = ((i + 1 : Nat) : Int) from (wrap64_id (by omega) (by omega)).trans (by simp)]
    exact rr_loop x n hx hn m (i + 1) k (by omega)
theorem rright_f (x n : Nat) (hx : x < 2 ^ 32) (hn : n ≤ 32) : mastheadref02_right.f 40 (x : Int) (n : Int) = some ((rr x n : Nat) : Int) := by
  have h := rr_loop x n hx hn n 0 (39 - n) (by omega)
  have h0 : rr x 0 = x := by
    have h1 := rot_lt (N := 32) (s := 32) (by omega) hx
    unfold rr rot
    simp
    omega
  rw [h0, show n + 1 + (39 - n) = 40 by omega] at h
  unfold mastheadref02_right.f
  exact h
theorem oright_f (x n : Nat) (hx : x < 2 ^ 32) (hn : n < 32) : octet_Right32.f (x : Int) (n : Int) = some ((rr x n : Nat) : Int) := right32_tells x hx n n hn (by omega)
end Go.Proofs.YtefnpecncacepaaDoor.Hand
