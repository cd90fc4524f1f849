/- Several texts in one. -/
import Derived.Test.YtpjkhecefppamaaDoorProg
import Derived.Below
import Derived.Deep.Draws
import Derived.Deep.AppendLies
import Derived.Maps.AppendAt
import Derived.OwnWalk
import Derived.Laws.BytesArg
import Derived.Laws.MakeOwn
import Derived.Laws.OwnMore
import Derived.Deep.OwnRows
import Derived.Tactics
import Derived.Lib.ConvBytes
import Derived.Laws.Slices
import Derived.WalkKit
import Derived.KernelRfl
import Derived.RowKit3
import Derived.Deep.LoopGhost
import Derived.Deep.QuietTactic
import Derived.BigQuiet
import Derived.WideLaws
import Derived.Deep.DeepCutAuto
import Derived.Deep.CutBlock
import Derived.Deep.RegionHeld3
import Derived.Laws.Rows
import Derived.Lib.AppendStr
import Derived.ArgAppend
import Derived.Laws.IdiomCopy
import Derived.OrdersHeld
import Derived.Laws.BitsLemmas
import Derived.RowKit
import Derived.StillTailTactics
import Derived.Test.YtpjkhecefppamaaDoorWWords
import Derived.Test.YtpjkhecefppamaaDoorWLast
import Derived.Test.YtpjkhecefppamaaDoorWMore
import Derived.Lib.Hide
import Derived.Test.YtpjkhecefppamaaDoorMAlln0
import Derived.Test.YtpjkhecefppamaaDoorMAlln1
import Derived.Test.YtpjkhecefppamaaDoorMAlln2
import Derived.Test.YtpjkhecefppamaaDoorMAlln3
import Derived.Test.YtpjkhecefppamaaDoorMAlln4
import Derived.Test.YtpjkhecefppamaaDoorMAlln5
import Derived.Test.YtpjkhecefppamaaDoorPlain
import Derived.Outline
import Derived.Deep.MidRow
import Derived.Deep.WholeRow
import Derived.Test.YtpjkhecefppamaaDoorArrays
import Derived.Laws.Tables
import Derived.Deep.RegionLaw
import Derived.Deep.DrawnRows
import Derived.Test.YtpjkhecefppamaaDoorTxA
import Derived.Test.YtpjkhecefppamaaDoorClone
import Derived.Test.YtpjkhecefppamaaDoorOctet
import Derived.LaidEql
import Derived.Lib.SlBytesConst
/- Words turned to the right: plain. -/
namespace Go.Proofs.YtpjkhecefppamaaDoor.Hand
open Go Go.RowKit Go.Proofs.YtpjkhecefppamaaDoor.Plain Go.Proofs.YtpjkhecefppamaaDoor.PAll Go.Proofs.YtpjkhecefppamaaDoorW.PrintWords Go.Proofs.YtpjkhecefppamaaDoorW.PrintLast Go.Proofs.YtpjkhecefppamaaDoorW.PrintMore
set_option linter.unusedVariables false
set_option linter.unusedSimpArgs false
set_option maxRecDepth 100000
def rot (N s x : Nat) : Nat := x % 2 ^ (N - s) * 2 ^ s + x / 2 ^ (N - s)
theorem divmod_of {r c M e : Nat} (h : r = c * M + e) (he : e < M) : r / M = c ∧ r % M = e := by
  subst h
  have hM : 0 < M := by omega
  constructor
  · rw [Nat.mul_comm, Nat.mul_add_div hM, Nat.div_eq_of_lt he]; omega
  · rw [Nat.mul_comm, Nat.mul_add_mod, Nat.mod_eq_of_lt he]
theorem split_pow {N s : Nat} (h : s ≤ N) : 2 ^ (N - s) * 2 ^ s = 2 ^ N := by rw [← Nat.pow_add]; congr 1; omega
theorem quo_lt {N s x : Nat} (h : s ≤ N) (hx : x < 2 ^ N) : x / 2 ^ (N - s) < 2 ^ s := by
  rw [Nat.div_lt_iff_lt_mul (Nat.two_pow_pos _), Nat.mul_comm, split_pow h]; exact hx
theorem rot_lt {N s x : Nat} (h : s ≤ N) (hx : x < 2 ^ N) : rot N s x < 2 ^ N := by
  have h1 := quo_lt h hx
  have h2 := Nat.mod_lt x (Nat.two_pow_pos (N - s))
  have h3 := split_pow h
  unfold rot
  have h4 : (x % 2 ^ (N - s) + 1) * 2 ^ s ≤ 2 ^ (N - s) * 2 ^ s := Nat.mul_le_mul_right _ h2
  rw [Nat.add_mul] at h4
  omega
theorem rot_zero (N x : Nat) (hx : x < 2 ^ N) : rot N 0 x = x := by
  unfold rot
  simp [Nat.div_eq_of_lt hx, Nat.mod_eq_of_lt hx]
theorem rot_back {N s x : Nat} (h : s ≤ N) (hx : x < 2 ^ N) : rot N (N - s) (rot N s x) = x := by
  have h1 := quo_lt h hx
  obtain ⟨e1, e2⟩ := divmod_of (r := rot N s x) rfl h1
  have hd := Nat.div_add_mod x (2 ^ (N - s))
  show rot N s x % 2 ^ (N - (N - s)) * 2 ^ (N - s) + rot N s x / 2 ^ (N - (N - s)) = x
  rw [show N - (N - s) = s from by omega, e1, e2, Nat.mul_comm]
  exact hd
theorem rot_forth {N s x : Nat} (h : s ≤ N) (hx : x < 2 ^ N) : rot N s (rot N (N - s) x) = x := by
  have := rot_back (N := N) (s := N - s) (x := x) (by omega) hx
  rwa [show N - (N - s) = s from by omega] at this
theorem rot_step {N i x : Nat} (h : i < N) (hx : x < 2 ^ N) : rot N i x % 2 ^ (N - 1) * 2 + rot N i x / 2 ^ (N - 1) = rot N (i + 1) x := by
  have hA : 2 ^ (N - i) = 2 ^ (N - (i + 1)) * 2 := by rw [← Nat.pow_succ]; congr 1; omega
  have hAB : 2 ^ (N - (i + 1)) * 2 ^ i = 2 ^ (N - 1) := by rw [← Nat.pow_add]; congr 1; omega
  have hq := quo_lt (s := i + 1) h hx
  have hd := Nat.mod_lt x (Nat.two_pow_pos (N - (i + 1)))
  have hx1 := Nat.div_add_mod x (2 ^ (N - (i + 1)))
  have hB : 2 ^ (i + 1) = 2 ^ i * 2 := Nat.pow_succ ..
  have e0 : rot N i x = (x / 2 ^ (N - (i + 1)) % 2) * 2 ^ (N - 1) + (x % 2 ^ (N - (i + 1)) * 2 ^ i + x / 2 ^ (N - (i + 1)) / 2) := by
    unfold rot
    rw [hA, ← Nat.div_div_eq_div_mul, Nat.mod_mul, Nat.add_mul, ← hAB]
    rw [Nat.mul_comm (2 ^ (N - (i + 1))) (x / 2 ^ (N - (i + 1)) % 2), Nat.mul_assoc]
    omega
  have hlt : x % 2 ^ (N - (i + 1)) * 2 ^ i + x / 2 ^ (N - (i + 1)) / 2 < 2 ^ (N - 1) := by
    have h4 : (x % 2 ^ (N - (i + 1)) + 1) * 2 ^ i ≤ 2 ^ (N - (i + 1)) * 2 ^ i := Nat.mul_le_mul_right _ hd
    rw [Nat.add_mul, hAB] at h4
    omega
  obtain ⟨e1, e2⟩ := divmod_of e0 hlt
  rw [e1, e2]
  unfold rot
  rw [hB, ← Nat.mul_assoc]
  omega
theorem shl32 (x s : Nat) (hs : s ≤ 32) : shl .u32 (x : Int) (s : Int) = ((x % 2 ^ (32 - s) * 2 ^ s : Nat) : Int) := by
  unfold shl
  rw [Nat.min_eq_left (by simp [IntKind.bits]; omega)]
  simp only [Int.toNat_natCast]
  rw [IntKind.wrap_u32, ← Nat.mul_mod_mul_right, split_pow hs]
  simp
theorem shl64 (x s : Nat) (hs : s ≤ 64) : shl .u64 (x : Int) (s : Int) = ((x % 2 ^ (64 - s) * 2 ^ s : Nat) : Int) := by
  unfold shl
  rw [Nat.min_eq_left (by simp [IntKind.bits]; omega)]
  simp only [Int.toNat_natCast]
  rw [IntKind.wrap_u64, ← Nat.mul_mod_mul_right, split_pow hs]
  simp
theorem shr32 (x s : Nat) (hs : s ≤ 32) : shr .u32 (x : Int) (s : Int) = ((x / 2 ^ s : Nat) : Int) := by
  unfold shr
  rw [Nat.min_eq_left (by simp [IntKind.bits]; omega)]
  simp
theorem shr64 (x s : Nat) (hs : s ≤ 64) : shr .u64 (x : Int) (s : Int) = ((x / 2 ^ s : Nat) : Int) := by
  unfold shr
  rw [Nat.min_eq_left (by simp [IntKind.bits]; omega)]
  simp
theorem high_lt {N s x : Nat} (h : s ≤ N) : x % 2 ^ (N - s) * 2 ^ s < 2 ^ N := by
  have hd := Nat.mod_lt x (Nat.two_pow_pos (N - s))
  rw [← split_pow h]
  exact Nat.mul_lt_mul_of_pos_right hd (Nat.two_pow_pos s)
/-- How many places a count stands for. -/
theorem places32 (a : Int) : ∃ s : Nat, s < 32 ∧ (s : Int) = a % 32 ∧ Int.tmod (IntKind.u64.wrap a) 32 = (s : Int) := by
  refine ⟨(a % 32).toNat, by omega, by omega, ?_⟩
  rw [IntKind.wrap_u64, Int.tmod_eq_emod_of_nonneg (by omega)]
  omega
theorem places64 (a : Int) : ∃ s : Nat, s < 64 ∧ (s : Int) = a % 64 ∧ Int.tmod (IntKind.u64.wrap a) 64 = (s : Int) := by
  refine ⟨(a % 64).toNat, by omega, by omega, ?_⟩
  rw [IntKind.wrap_u64, Int.tmod_eq_emod_of_nonneg (by omega)]
  omega
theorem right32_tells (x : Nat) (hx : x < 2 ^ 32) (a : Int) (s : Nat) (hs : s < 32) (ha : (s : Int) = a % 32) : octet_Right32.f (x : Int) a = some ((rot 32 (32 - s) x : Nat) : Int) := by
  obtain ⟨t, ht, hta, htm⟩ := places32 a
  obtain rfl : t = s := by omega
  unfold octet_Right32.f
  have e : IntKind.u64.wrap (32 - (t : Int)) = ((32 - t : Nat) : Int) := by rw [u64w_id (by omega) (by omega)]; omega
  rw [htm, if_pos (by omega), e, if_pos (by omega), shl32 x (32 - t) (by omega), shr32 x t (by omega)]
  have h1 := quo_lt (N := 32) (s := 32 - t) (by omega) hx
  have h2 := high_lt (N := 32) (s := 32 - t) (x := x) (by omega)
  have h3 : (2 : Nat) ^ (32 - t) ≤ 2 ^ 32 := two_pow_mono (by omega)
  have e3 : 32 - (32 - t) = t := by omega
  have h5 : rot 32 (32 - t) x = x % 2 ^ (32 - (32 - t)) * 2 ^ (32 - t) + x / 2 ^ (32 - (32 - t)) := rfl
  have h6 : (x % 2 ^ (32 - (32 - t)) * 2 ^ (32 - t)) % 2 ^ (32 - t) = 0 := Nat.mul_mod_left _ _
  rw [h5]
  rw [e3] at h1 h2 h6 ⊢
  generalize x % 2 ^ t * 2 ^ (32 - t) = B at *
  generalize x / 2 ^ t = A at *
  rw [or32' (32 - t) (by omega) (by exact_mod_cast h1) (by omega) (by omega) (by exact_mod_cast h6) (by omega)]
  simp [Int.add_comm]
/-- A word, turned to the right by k. -/
def rr (x k : Nat) : Nat := rot 32 (32 - k) x
theorem rr_lt {x k : Nat} (hx : x < 2 ^ 32) : rr x k < 2 ^ 32 := rot_lt (by omega) hx
theorem rr_step {x i : Nat} (hx : x < 2 ^ 32) (hi : i < 32) : rr x i / 2 + rr x i % 2 * 2147483648 = rr x (i + 1) := by
  have h1 := rot_lt (N := 32) (s := 32 - (i + 1)) (by omega) hx
  have h2 := rot_step (N := 32) (i := 32 - (i + 1)) (by omega) hx
  rw [show 32 - (i + 1) + 1 = 32 - i by omega] at h2
  unfold rr
  rw [← h2]
  generalize rot 32 (32 - (i + 1)) x = y at h1 ⊢
  simp only [show (2 : Nat) ^ (32 - 1) = 2147483648 from by decide]
  have : y < 4294967296 := h1
  omega
theorem rr_loop (x n : Nat) (hx : x < 2 ^ 32) (hn : n ≤ 32) : ∀ (m i k : Nat), i + m = n → mastheadref02_right.l0 (m + 1 + k) ((rr x i : Nat) : Int) (n : Int) (i : Int) = some ((rr x n : Nat) : Int)
  | 0, i, k, h => by
    rw [show 0 + 1 + k = k + 1 by omega]
    unfold mastheadref02_right.l0
    rw [if_neg (by omega), show i = n by omega]
  | m + 1, i, k, h => by
    have hlt := rr_lt (k := i) hx
    have hst := rr_step (i := i) hx (by omega)
    have hlt2 := rr_lt (k := i + 1) hx
    rw [show m + 1 + 1 + k = (m + 1 + k) + 1 by omega]
    unfold mastheadref02_right.l0
    have e : (((Int.tdiv ((rr x i : Nat) : Int) 2) % 4294967296) + (((Int.tmod ((rr x i : Nat) : Int) 2) * 2147483648) % 4294967296)) % 4294967296 = ((rr x (i + 1) : Nat) : Int) := by
      rw [Int.tdiv_eq_ediv_of_nonneg (by omega), Int.tmod_eq_emod_of_nonneg (by omega)]
      have h3 : rr x i < 4294967296 := hlt
      have h4 : rr x (i + 1) < 4294967296 := hlt2
      omega
    rw [if_pos (by omega), e, show wrap64 ((i : Int) + 1) = ((i + 1 : Nat) : Int) from (wrap64_id (by omega) (by omega)).trans (by simp)]
    exact rr_loop x n hx hn m (i + 1) k (by omega)
theorem rright_f (x n : Nat) (hx : x < 2 ^ 32) (hn : n ≤ 32) : mastheadref02_right.f 40 (x : Int) (n : Int) = some ((rr x n : Nat) : Int) := by
  have h := rr_loop x n hx hn n 0 (39 - n) (by omega)
  have h0 : rr x 0 = x := by
    have h1 := rot_lt (N := 32) (s := 32) (by omega) hx
    unfold rr rot
    simp
    omega
  rw [h0, show n + 1 + (39 - n) = 40 by omega] at h
  unfold mastheadref02_right.f
  exact h
theorem oright_f (x n : Nat) (hx : x < 2 ^ 32) (hn : n < 32) : octet_Right32.f (x : Int) (n : Int) = some ((rr x n : Nat) : Int) := right32_tells x hx n n hn (by omega)
end Go.Proofs.YtpjkhecefppamaaDoor.Hand

/- The step of a block: what it computes. -/
namespace Go.Proofs.YtpjkhecefppamaaDoor.Hand
open Go Go.RowKit Go.Proofs.YtpjkhecefppamaaDoor.Plain Go.Proofs.YtpjkhecefppamaaDoor.PAll Go.Proofs.YtpjkhecefppamaaDoorW.PrintWords Go.Proofs.YtpjkhecefppamaaDoorW.PrintLast Go.Proofs.YtpjkhecefppamaaDoorW.PrintMore
set_option linter.unusedVariables false
set_option linter.unusedSimpArgs false
set_option maxRecDepth 100000
/-- A word. -/
def Wd (x : Int) : Prop := 0 ≤ x ∧ x < 4294967296
def rrI (x : Int) (k : Nat) : Int := ((rr x.toNat k : Nat) : Int)
def x3 (a b c : Int) : Int := Go.bits .xor .u32 (Go.bits .xor .u32 a b) c
def add32 (a b : Int) : Int := (a + b) % 4294967296
theorem add32_wd (a b : Int) : Wd (add32 a b) := by unfold add32 Wd; omega
theorem rrI_wd {x : Int} (h : Wd x) (k : Nat) : Wd (rrI x k) := by
  have := rr_lt (x := x.toNat) (k := k) (by have := h.2; have := h.1; show x.toNat < 4294967296; omega)
  unfold rrI Wd
  have h2 : rr x.toNat k < 4294967296 := this
  omega
theorem oright_I {x : Int} (h : Wd x) (k : Nat) (hk : k < 32) : octet_Right32.f x (k : Int) = some (rrI x k) := by
  have := oright_f x.toNat k (by have := h.2; have := h.1; show x.toNat < 4294967296; omega) hk
  rwa [Int.toNat_of_nonneg h.1] at this
theorem rright_I {x : Int} (h : Wd x) (k : Nat) (hk : k ≤ 32) : mastheadref02_right.f 40 x (k : Int) = some (rrI x k) := by
  have := rright_f x.toNat k (by have := h.2; have := h.1; show x.toNat < 4294967296; omega) hk
  rwa [Int.toNat_of_nonneg h.1] at this
theorem turned_I {x : Int} (h : Wd x) (a b c : Nat) (ha : a < 32) (hb : b < 32) (hc : c < 32) : sha2_turned.f x (a : Int) (b : Int) (c : Int) = some (x3 (rrI x a) (rrI x b) (rrI x c)) := by
  unfold sha2_turned.f
  rw [oright_I h a ha, oright_I h b hb, oright_I h c hc]
  rfl
/-- The two of the words that follow. -/
def sg0 (x : Int) : Int := x3 (rrI x 7) (rrI x 18) (x / 8)
def sg1 (y : Int) : Int := x3 (rrI y 17) (rrI y 19) (y / 1024)
theorem shr3 {x : Int} (h : Wd x) : shr .u32 x 3 = x / 8 := by
  have := shr32 x.toNat 3 (by decide)
  rw [Int.toNat_of_nonneg h.1] at this
  rw [show ((3 : Nat) : Int) = 3 from rfl] at this
  rw [this]
  have h0 := h.1
  simp only [show (2 : Nat) ^ 3 = 8 from rfl]
  omega
theorem shr10 {x : Int} (h : Wd x) : shr .u32 x 10 = x / 1024 := by
  have := shr32 x.toNat 10 (by decide)
  rw [Int.toNat_of_nonneg h.1] at this
  rw [show ((10 : Nat) : Int) = 10 from rfl] at this
  rw [this]
  have h0 := h.1
  simp only [show (2 : Nat) ^ 10 = 1024 from rfl]
  omega
/-- The next word, of those so far. -/
def wAt (ws : List Int) (i : Nat) : Int := add32 (add32 (add32 (rd ws ((i - 16 : Nat) : Int)) (sg0 (rd ws ((i - 15 : Nat) : Int)))) (rd ws ((i - 7 : Nat) : Int))) (sg1 (rd ws ((i - 2 : Nat) : Int)))
def ext : Nat → List Int → List Int
  | 0, ws => ws
  | n + 1, ws => ext n (ws ++ [wAt ws ws.length])
/-- The word at a place of a block. -/
def big4 (b : List Int) (i : Nat) : Int := (rd b ((4 * i : Nat) : Int) * 16777216 + rd b ((4 * i + 1 : Nat) : Int) * 65536 + rd b ((4 * i + 2 : Nat) : Int) * 256 + rd b ((4 * i + 3 : Nat) : Int)) % 4294967296
def first16 (b : List Int) : List Int := (List.range 16).map (big4 b)
/-- A block's words. -/
def wds (b : List Int) : List Int := ext 48 (first16 b)
def kT : List Int := [1116352408, 1899447441, 3049323471, 3921009573, 961987163, 1508970993, 2453635748, 2870763221, 3624381080, 310598401, 607225278, 1426881987, 1925078388, 2162078206, 2614888103, 3248222580, 3835390401, 4022224774, 264347078, 604807628, 770255983, 1249150122, 1555081692, 1996064986, 2554220882, 2821834349, 2952996808, 3210313671, 3336571891, 3584528711, 113926993, 338241895, 666307205, 773529912, 1294757372, 1396182291, 1695183700, 1986661051, 2177026350, 2456956037, 2730485921, 2820302411, 3259730800, 3345764771, 3516065817, 3600352804, 4094571909, 275423344, 430227734, 506948616, 659060556, 883997877, 958139571, 1322822218, 1537002063, 1747873779, 1955562222, 2024104815, 2227730452, 2361852424, 2428436474, 2756734187, 3204031479, 3329325298]
/-- The state's eight words. -/
structure St where
  a : Int
  b : Int
  c : Int
  d : Int
  e : Int
  f : Int
  g : Int
  h : Int
def St.l (s : St) : List Int := [s.a, s.b, s.c, s.d, s.e, s.f, s.g, s.h]
def chO (e f g : Int) : Int := Go.bits .xor .u32 (Go.bits .and .u32 e f) (Go.bits .and .u32 (4294967295 - e) g)
def maj (a b c : Int) : Int := x3 (Go.bits .and .u32 a b) (Go.bits .and .u32 a c) (Go.bits .and .u32 b c)
def pR (s : St) (k w : Int) : Int := add32 (add32 (add32 (add32 s.h (x3 (rrI s.e 6) (rrI s.e 11) (rrI s.e 25))) (chO s.e s.f s.g)) k) w
def qR (s : St) : Int := add32 (x3 (rrI s.a 2) (rrI s.a 13) (rrI s.a 22)) (maj s.a s.b s.c)
def round (s : St) (k w : Int) : St := ⟨add32 (pR s k w) (qR s), s.a, s.b, s.c, add32 s.d (pR s k w), s.e, s.f, s.g⟩
def rounds (ws : List Int) : Nat → St → St
  | 0, s => s
  | n + 1, s => round (rounds ws n s) (rd kT (n : Int)) (rd ws (n : Int))
/-- The step. -/
def stepS (s : St) (b : List Int) : St :=
  let v := rounds (wds b) 64 s
  ⟨add32 s.a v.a, add32 s.b v.b, add32 s.c v.c, add32 s.d v.d, add32 s.e v.e, add32 s.f v.f, add32 s.g v.g, add32 s.h v.h⟩
theorem ext_len : ∀ (n : Nat) (ws : List Int), (ext n ws).length = ws.length + n
  | 0, ws => rfl
  | n + 1, ws => by
    unfold ext
    rw [ext_len n]
    simp
    omega
theorem wds_len (b : List Int) : (wds b).length = 64 := by
  unfold wds
  rw [ext_len]
  simp [first16]
end Go.Proofs.YtpjkhecefppamaaDoor.Hand

/- A block's words: walked. -/
namespace Go.Proofs.YtpjkhecefppamaaDoor.Hand
open Go Go.RowKit Go.Proofs.YtpjkhecefppamaaDoor.Plain Go.Proofs.YtpjkhecefppamaaDoor.PAll Go.Proofs.YtpjkhecefppamaaDoorW.PrintWords Go.Proofs.YtpjkhecefppamaaDoorW.PrintLast Go.Proofs.YtpjkhecefppamaaDoorW.PrintMore
set_option linter.unusedVariables false
set_option linter.unusedSimpArgs false
set_option maxRecDepth 100000
/-- Words, the rest of them not laid yet. -/
def row64 (l : List Int) : List Value := nums .u32 (l ++ List.replicate (64 - l.length) 0)
theorem row64_len {l : List Int} (h : l.length ≤ 64) : (row64 l).length = 64 := by simp [row64, nums]; omega
theorem row64_get {l : List Int} {j : Nat} (h : j < l.length) : (row64 l).toArray[j]? = some (.int .u32 (rd l (j : Int))) := by
  simp [row64, nums, rd, h, List.getElem?_append_left, List.getElem?_map]
theorem row64_set {l : List Int} (h : l.length < 64) (x : Int) : (row64 l).toArray.setIfInBounds l.length (.int .u32 x) = (row64 (l ++ [x])).toArray := by
  obtain ⟨m, hm⟩ : ∃ m, 64 - l.length = m + 1 := ⟨63 - l.length, by omega⟩
  have h2 : 64 - (l ++ [x]).length = m := by simp; omega
  unfold row64 nums
  rw [hm, h2, List.replicate_succ]
  simp [List.map_append]
theorem row64_rest {l L : List Int} {t : Nat} (h : L.length = t) (e : l = L) (h2 : t < 64) : (row64 l).toArray[t]? = some (.int .u32 0) := by
  subst e
  subst h
  simp only [row64, nums]
  rw [List.getElem?_toArray, List.getElem?_map, List.getElem?_append_right (Nat.le_refl _), Nat.sub_self, List.getElem?_replicate, if_pos (by omega)]
  rfl
theorem row64_full {l : List Int} (h : l.length = 64) : row64 l = nums .u32 l := by simp [row64, h]
theorem infoW : (Tryd.prog.info? 88).map (fun i => (i.zero, i.size)) = some (some (.agg (row64 []).toArray), 64) := by kernel_rfl
theorem row64_one (l : List Int) : ∀ v ∈ row64 l, v.oneCell' = true := nums_one _ _
theorem big_loop (xs : List Int) (hb : ∀ x ∈ xs, 0 ≤ x ∧ x < 256) (h4 : xs.length = 4) : octet_Big.f 10 xs = some (rd xs 0 * 16777216 + rd xs 1 * 65536 + rd xs 2 * 256 + rd xs 3) := by
  match xs, h4 with
  | [a, b, c, d], _ =>
    have ha := hb a (by simp)
    have hb2 := hb b (by simp)
    have hc := hb c (by simp)
    have hd := hb d (by simp)
    have o1 : ∀ (x y : Int), 0 ≤ x → x < 65536 * 256 → 0 ≤ y → y < 256 → Go.bits .or .u64 (IntKind.u64.wrap (x * 256)) (IntKind.u64.wrap y) = x * 256 + y := fun x y h1 h2 h3 h4 => by
      rw [u64w_id (by omega) (by omega), u64w_id (by omega) (by omega)]
      exact or64 8 h3 (by omega) (by omega) (by omega) (by omega) (by omega)
    have r0 : rd [a, b, c, d] 0 = a := rfl
    have r1 : rd [a, b, c, d] 1 = b := rfl
    have r2 : rd [a, b, c, d] 2 = c := rfl
    have r3 : rd [a, b, c, d] 3 = d := rfl
    unfold octet_Big.f
    have e : mn (([a, b, c, d] : List Int).length : Int) 8 = 4 := rfl
    have l4 : (([a, b, c, d] : List Int).length : Int) = 4 := rfl
    have w1 : wrap64 (0 + 1) = 1 := (wrap64_id (by decide) (by decide)).trans rfl
    have w2 : wrap64 (1 + 1) = 2 := (wrap64_id (by decide) (by decide)).trans rfl
    have w3 : wrap64 (2 + 1) = 3 := (wrap64_id (by decide) (by decide)).trans rfl
    have w4 : wrap64 (3 + 1) = 4 := (wrap64_id (by decide) (by decide)).trans rfl
    rw [e]
    unfold octet_Big.l0; rw [l4, if_pos (by decide), if_pos (by decide), if_pos (by decide), w1, r0, o1 0 a (by omega) (by omega) (by omega) (by omega)]
    unfold octet_Big.l0; rw [l4, if_pos (by decide), if_pos (by decide), if_pos (by decide), w2, r1, o1 (0 * 256 + a) b (by omega) (by omega) (by omega) (by omega)]
    unfold octet_Big.l0; rw [l4, if_pos (by decide), if_pos (by decide), if_pos (by decide), w3, r2, o1 ((0 * 256 + a) * 256 + b) c (by omega) (by omega) (by omega) (by omega)]
    unfold octet_Big.l0; rw [l4, if_pos (by decide), if_pos (by decide), if_pos (by decide), w4, r3, o1 (((0 * 256 + a) * 256 + b) * 256 + c) d (by omega) (by omega) (by omega) (by omega)]
    unfold octet_Big.l0; rw [if_neg (by decide)]
    congr 1
    omega
/-- Four bytes of a block of 64, as a word. -/
theorem big4_calls {w : World} {bB : Nat} {bs : List Int} {t : TypeId} {fr : Nat × Nat} (k : Nat) (hk : k < 16) (c : Nat) (hc : 4 ≤ c) (hb : w.heap[bB]? = some (.cells (nums .u8 bs).toArray t fr)) (hl : bs.length = 64) (hby : ∀ x ∈ bs, 0 ≤ x ∧ x < 256) :
    Calls Tryd.prog 53 #[.slice (some ⟨bB, 4 * k, none⟩) 4 c] w fun e w' => e = .returned (.int .u64 (big4 bs k)) ∧ Below w.heap.size w w' := by
  obtain ⟨l, hl4⟩ : ∃ l, (bs.drop (4 * k)).take 4 = l := ⟨_, rfl⟩
  have h4 : l.length = 4 := by rw [← hl4]; simp; omega
  have hbl : ∀ x ∈ l, 0 ≤ x ∧ x < 256 := fun x hx => hby x (List.mem_of_mem_drop (List.mem_of_mem_take (by rw [hl4]; exact hx)))
  have hsp : bs = bs.take (4 * k) ++ (l ++ bs.drop (4 * k + 4)) := by rw [← hl4, ← List.drop_drop, List.take_append_drop, List.take_append_drop]
  have hcs : nums .u8 bs = nums .u8 (bs.take (4 * k)) ++ (nums .u8 l ++ nums .u8 (bs.drop (4 * k + 4))) := by
    have := congrArg (nums .u8) hsp
    simpa [nums] using this
  have hC : Kd.C (Kd.int .u8) w (some ⟨bB, 4 * k, none⟩) l.length l := C_of_block (pre := nums .u8 (bs.take (4 * k))) (post := nums .u8 (bs.drop (4 * k + 4))) (t := t) (fr := fr) (by rw [hb, hcs]) (by simp [nums]; omega) (by omega)
  have hg : ∀ j : Nat, j < 4 → rd l (j : Int) = rd bs ((4 * k + j : Nat) : Int) := fun j hj => by
    simp only [rd, Int.toNat_natCast]
    rw [← hl4, List.getD_eq_getElem?_getD, List.getD_eq_getElem?_getD, List.getElem?_take_of_lt hj, List.getElem?_drop]
  have hv : rd l 0 * 16777216 + rd l 1 * 65536 + rd l 2 * 256 + rd l 3 = big4 bs k := by
    have g0 := hg 0 (by decide)
    have g1 := hg 1 (by decide)
    have g2 := hg 2 (by decide)
    have g3 := hg 3 (by decide)
    have hr : ∀ j : Nat, j < 64 → 0 ≤ rd bs (j : Int) ∧ rd bs (j : Int) < 256 := fun j hj => hby _ (by simp [rd, hl, hj])
    have q0 := hr (4 * k) (by omega)
    have q1 := hr (4 * k + 1) (by omega)
    have q2 := hr (4 * k + 2) (by omega)
    have q3 := hr (4 * k + 3) (by omega)
    unfold big4
    simp only [Int.natCast_zero, Int.natCast_one, show ((2 : Nat) : Int) = 2 from rfl, show ((3 : Nat) : Int) = 3 from rfl, Nat.add_zero] at g0 g1 g2 g3
    rw [g0, g1, g2, g3]
    omega
  have := octet_Big.calls 10 (some ⟨bB, 4 * k, none⟩) c l _ w hC (by omega) (big_loop l hbl h4)
  rw [h4, hv] at this
  exact this
theorem arr64b : Tryd.prog.underlying 90 = some (.array (Tryd.prog.arrayLen 90) (Tryd.prog.elem 90)) ∧ Tryd.prog.arrayLen 90 = 64 := ⟨by kernel_rfl, by kernel_rfl⟩
theorem slice_blk (W : World) (bB l h : Nat) (hlh : l ≤ h) (hh : h ≤ 64) (hl : l < 64) : (Instr.sliceAt 90 (.pointer (some ⟨bB, 0, none⟩)) (some (.int .i64 (l : Int))) (some (.int .i64 (h : Int))) none).run Tryd.prog W = .ok (.slice (some ⟨bB, l, none⟩) (h - l) (64 - l)) W := by
  rw [run_sliceAt_array_lh W 90 ⟨bB, 0, none⟩ arr64b.1 .i64 .i64 l h (by omega) (by omega) (by rw [arr64b.2]; omega)]
  have z : (sizeOf (Tryd.prog.elem 90)).run Tryd.prog W = .ok 1 W := by rfl
  rw [z, arr64b.2]
  simp only [slicedAt, Result.andThen, Int.toNat_natCast, Nat.mul_one, Addr.add_mid, Nat.zero_add]
  rw [if_neg (by omega)]
theorem take16_step (b : List Int) (k : Nat) (hk : k < 16) : (first16 b).take (k + 1) = (first16 b).take k ++ [big4 b k] := by
  unfold first16
  rw [List.take_succ_eq_append_getElem (by simpa using hk)]
  simp
theorem ext_step : ∀ (n : Nat) (ws : List Int), ext (n + 1) ws = ext n ws ++ [wAt (ext n ws) (ext n ws).length]
  | 0, ws => rfl
  | n + 1, ws => by
    have := ext_step n (ws ++ [wAt ws ws.length])
    unfold ext
    rw [this]
theorem big4_wd (b : List Int) (k : Nat) : Wd (big4 b k) := by unfold big4 Wd; omega
theorem wAt_wd (ws : List Int) (i : Nat) : Wd (wAt ws i) := add32_wd _ _
theorem ext_wd : ∀ (n : Nat) (ws : List Int), (∀ x ∈ ws, Wd x) → ∀ x ∈ ext n ws, Wd x
  | 0, ws, h => h
  | n + 1, ws, h => by
    unfold ext
    refine ext_wd n _ fun x hx => ?_
    simp only [List.mem_append, List.mem_singleton] at hx
    rcases hx with hx | rfl
    · exact h x hx
    · exact wAt_wd _ _
theorem first16_wd (b : List Int) : ∀ x ∈ first16 b, Wd x := by
  intro x hx
  simp only [first16, List.mem_map] at hx
  obtain ⟨k, _, rfl⟩ := hx
  exact big4_wd b k
theorem rd_wd {ws : List Int} (h : ∀ x ∈ ws, Wd x) (i : Int) : Wd (rd ws i) := by
  unfold rd
  rw [List.getD_eq_getElem?_getD]
  cases hj : ws[i.toNat]? with
  | none => exact ⟨by decide, by decide⟩
  | some x => exact h x (List.mem_of_getElem? hj)
theorem wAt_of {L : List Int} {t : Nat} {x y p q : Int} (h : L.length = t) (h15 : rd L ((t - 15 : Nat) : Int) = x) (h2 : rd L ((t - 2 : Nat) : Int) = y) (h16 : rd L ((t - 16 : Nat) : Int) = p) (h7 : rd L ((t - 7 : Nat) : Int) = q) : wAt L L.length = add32 (add32 (add32 p (sg0 x)) q) (sg1 y) := by
  unfold wAt
  rw [h, h15, h2, h16, h7]
theorem below_setRow {B : Nat} {w0 w : World} (h : Below B w0 w) {g : Nat} (hg : B ≤ g) (cs : Array Value) : Below B w0 (w.setRow g cs) := by
  obtain ⟨h1, h2, h3, h4, h5⟩ := h
  refine ⟨h1, h2, h3, by simpa [World.setRow] using h4, fun k hk => ?_⟩
  rw [setRow_other w g k cs (by omega)]
  exact h5 k hk
set_option maxHeartbeats 1000000 in
set_option maxRecDepth 100000 in
theorem spread_calls (bB : Nat) (bs : List Int) (w : World) (hb : w.heap[bB]? = some (.cells (nums .u8 bs).toArray 90 (0, 0))) (hl : bs.length = 64) (hby : ∀ x ∈ bs, 0 ≤ x ∧ x < 256) :
    Calls Tryd.prog 50 #[.pointer (some ⟨bB, 0, none⟩)] w fun e w' => e = .returned (.agg (nums .u32 (wds bs)).toArray) ∧ Below w.heap.size w w' := by
  have HBK := Lib.hid hb
  have HL := Lib.hid hl
  have HBY := Lib.hid hby
  have hz := (zero_of_info infoW).1
  have HSZ := Lib.hid (show ∀ l : List Int, l.length ≤ 64 → (Tryd.prog.info? 88).map (·.size) = some (row64 l).toArray.size from fun l h => by rw [(zero_of_info infoW).2]; simp [row64_len h])
  obtain ⟨Z, hZ⟩ : ∃ Z, (row64 []).toArray = Z := ⟨_, rfl⟩
  rw [hZ] at hz
  have HZ := Lib.hid hZ
  clear hb hl hby hZ
  go_enter Tryd.func50, Tryd.ntmps50
  go_wp2_with fail
  have HW := Lib.hid (show ((w.alloc (.cells Z 88)).alloc (.cells Z 88)).heap[w.heap.size + 1]? = some (.cells (row64 ((first16 bs).take 0)).toArray 88 (0, 0)) by
    have := heap_alloc_new (w.alloc (.cells Z 88)) (.cells Z 88)
    rw [World.size_alloc] at this
    rw [this, List.take_zero, HZ.out])
  have HR := Lib.hid (blk_alloc (show (w.alloc (.cells Z 88)).heap[w.heap.size]? = some (.cells Z 88 (0, 0)) by simpa using heap_alloc_new w _) (.cells Z 88))
  have HB := Lib.hid (below_alloc (below_alloc (Below.refl w.heap.size w) (.cells Z 88)) (.cells Z 88))
  have HLT := Lib.hid (show bB < w.heap.size from blk_lt HBK.out)
  obtain ⟨bW, hbW⟩ : ∃ b, w.heap.size + 1 = b := ⟨_, rfl⟩
  rw [hbW] at HW ⊢
  have HBW := Lib.hid (show w.heap.size ≤ bW ∧ w.heap.size ≠ bW by omega)
  clear hbW hz
  go_loopw [10] (fun i wr => ∃ k : Nat, k ≤ 16 ∧ i = .int .i64 (k : Int) ∧ Hid (wr.heap[bW]? = some (.cells (row64 ((first16 bs).take k)).toArray 88 (0, 0)) ∧ wr.heap[w.heap.size]? = some (.cells Z 88 (0, 0)) ∧ Below w.heap.size w wr)) (fun i _ => (16 - intOf i).toNat)
  case atStart => exact ⟨0, by omega, rfl, Lib.hid ⟨HW.out, HR.out, HB.out⟩⟩
  case round =>
    obtain ⟨k, hk, rfl, H⟩ := hrel
    obtain ⟨ho, hrs, hb⟩ := H.out
    have HO := Lib.hid ho
    have HRS := Lib.hid hrs
    have HBB := Lib.hid hb
    clear ho hrs hb H
    by_cases hlt : k < 16
    · have hs : ∀ W, (Instr.sliceAt 90 (.pointer (some ⟨bB, 0, none⟩)) (some (.int .i64 (4 * (k : Int)))) (some (.int .i64 (4 * (k : Int) + 4))) none).run Tryd.prog W = .ok (.slice (some ⟨bB, 4 * k, none⟩) 4 (64 - 4 * k)) W := fun W => by
        have := slice_blk W bB (4 * k) (4 * k + 4) (by omega) (by omega) (by omega)
        simpa using this
      have w4 : wrap64 (4 * (k : Int)) = 4 * (k : Int) := wrap64_id (by omega) (by omega)
      go_wp2_with fail
      refine (big4_calls k hlt (64 - 4 * k) (by omega) ((HBB.out.block bB HLT.out).trans HBK.out) HL.out HBY.out).mono ?_
      rintro e w1 ⟨rfl, hb1⟩
      have hk64 : ((first16 bs).take k).length = k := by simp [first16]; omega
      have ho1 := (hb1.block bW (blk_lt HO.out)).trans HO.out
      have c0 : w1.cell? ⟨bW, k, none⟩ = some (.int .u32 0) := (blk_cell ho1 k).trans (by simp only [row64, nums, hk64]; rw [List.getElem?_toArray, List.getElem?_map, List.getElem?_append_right (by rw [hk64]; exact Nat.le_refl _), hk64, Nat.sub_self, List.getElem?_replicate, if_pos (by omega)]; rfl)
      have f0 := blk_frozen ho1 k
      have HO2 := Lib.hid (show (w1.setCell ⟨bW, k, none⟩ (.int .u32 (big4 bs k))).heap[bW]? = some (.cells (row64 ((first16 bs).take (k + 1))).toArray 88 (0, 0)) by
        have := blk_set ho1 k (.int .u32 (big4 bs k))
        rw [this, take16_step bs k hlt]
        have h2 := row64_set (l := (first16 bs).take k) (by rw [hk64]; omega) (big4 bs k)
        rw [hk64] at h2
        rw [h2])
      have HR2 := Lib.hid (show (w1.setCell ⟨bW, k, none⟩ (.int .u32 (big4 bs k))).heap[w.heap.size]? = some (.cells Z 88 (0, 0)) by
        rw [Below.heap_setCell w1 ⟨bW, k, none⟩ _ w.heap.size HBW.out.2]
        exact (hb1.block _ (blk_lt HRS.out)).trans HRS.out)
      have HB2 := Lib.hid ((HBB.out.trans (Below.mono hb1 HBB.out.size)).setCell (p := ⟨bW, k, none⟩) HBW.out.1 (.int .u32 (big4 bs k)))
      have hw4 := big4_wd bs k
      have u4 : IntKind.u32.wrap (big4 bs k) = big4 bs k := u32w_id hw4.1 hw4.2
      have m4 : big4 bs k % 4294967296 = big4 bs k := Int.emod_eq_of_lt hw4.1 hw4.2
      clear ho1 hb1 hw4
      go_wp2_with fail
      exact ⟨⟨k + 1, by omega, by simp, Lib.hid ⟨HO2.out, HR2.out, HB2.out⟩⟩, by simp only [intOf]; omega⟩
    · obtain rfl : k = 16 := by omega
      have HO0 := Lib.hid (show wr.heap[bW]? = some (.cells (row64 (ext 0 (first16 bs))).toArray 88 (0, 0)) by
        rw [HO.out, show (first16 bs).take 16 = first16 bs from List.take_of_length_le (by simp [first16])]
        rfl)
      clear HO HW HR HB hk hlt
      rw [show ((16 : Nat) : Int) = 16 from rfl]
      go_wp2_with fail
      go_loopw [5] (fun i wr => ∃ n : Nat, n ≤ 48 ∧ i = .int .i64 ((16 + n : Nat) : Int) ∧ Hid (wr.heap[bW]? = some (.cells (row64 (ext n (first16 bs))).toArray 88 (0, 0)) ∧ wr.heap[w.heap.size]? = some (.cells Z 88 (0, 0)) ∧ Below w.heap.size w wr)) (fun i _ => (64 - intOf i).toNat)
      case atStart => exact ⟨0, by omega, rfl, Lib.hid ⟨HO0.out, HRS.out, HBB.out⟩⟩
      case round =>
        obtain ⟨n, hn, rfl, H⟩ := hrel
        obtain ⟨ho, hrs, hb⟩ := H.out
        have HO := Lib.hid ho
        have HRQ := Lib.hid hrs
        have HBQ := Lib.hid hb
        obtain ⟨t, ht⟩ : ∃ t, 16 + n = t := ⟨_, rfl⟩
        have ht1 : 16 ≤ t := by omega
        rw [ht]
        by_cases hlt : t < 64
        · obtain ⟨L, hL⟩ : ∃ L, ext n (first16 bs) = L := ⟨_, rfl⟩
          have hLl : L.length = t := by rw [← hL, ext_len, ← ht]; simp [first16]
          have hLw : ∀ x ∈ L, Wd x := by rw [← hL]; exact ext_wd n _ (first16_wd bs)
          rw [hL] at ho
          have hx15 := rd_wd hLw ((t - 15 : Nat) : Int)
          have hx2 := rd_wd hLw ((t - 2 : Nat) : Int)
          have g15 := (blk_cell ho (t - 15)).trans (row64_get (by omega))
          have g2 := (blk_cell ho (t - 2)).trans (row64_get (by omega))
          have g16 := (blk_cell ho (t - 16)).trans (row64_get (by omega))
          have g7 := (blk_cell ho (t - 7)).trans (row64_get (by omega))
          obtain ⟨x, hx⟩ : ∃ x, rd L ((t - 15 : Nat) : Int) = x := ⟨_, rfl⟩
          obtain ⟨y, hy⟩ : ∃ x, rd L ((t - 2 : Nat) : Int) = x := ⟨_, rfl⟩
          obtain ⟨p, hp⟩ : ∃ x, rd L ((t - 16 : Nat) : Int) = x := ⟨_, rfl⟩
          obtain ⟨q, hq⟩ : ∃ x, rd L ((t - 7 : Nat) : Int) = x := ⟨_, rfl⟩
          rw [hx] at g15 hx15
          rw [hy] at g2 hx2
          rw [hp] at g16
          rw [hq] at g7
          have HX := Lib.hid (And.intro hx15 hx2)
          have HP := Lib.hid (And.intro hx (And.intro hy (And.intro hp (And.intro hq (And.intro hLl hL)))))
          have e15 : ((t : Int) - 15).toNat = t - 15 := by omega
          have e2 : ((t : Int) - 2).toNat = t - 2 := by omega
          have e16 : ((t : Int) - 16).toNat = t - 16 := by omega
          have e7 : ((t : Int) - 7).toNat = t - 7 := by omega
          clear ho hrs hb H hx hy hp hq hx15 hx2 hLl hLw hL
          go_wp2_with fail
          go_quiet (fail)
          go_wp2_with fail
          refine (octet_Right32.calls x 7 _ _ (oright_I HX.out.1 7 (by decide))).mono ?_
          rintro e w5 ⟨rfl, ⟨m1, rfl⟩⟩
          rw [World.drewN_drewN]
          go_wp2_with fail
          refine (octet_Right32.calls x 18 _ _ (oright_I HX.out.1 18 (by decide))).mono ?_
          rintro e w5 ⟨rfl, ⟨m2, rfl⟩⟩
          rw [World.drewN_drewN]
          have s3 := shr3 HX.out.1
          go_wp2_with fail
          refine (octet_Right32.calls y 17 _ _ (oright_I HX.out.2 17 (by decide))).mono ?_
          rintro e w5 ⟨rfl, ⟨m3, rfl⟩⟩
          rw [World.drewN_drewN]
          go_wp2_with fail
          refine (octet_Right32.calls y 19 _ _ (oright_I HX.out.2 19 (by decide))).mono ?_
          rintro e w5 ⟨rfl, ⟨m4, rfl⟩⟩
          rw [World.drewN_drewN]
          have s10 := shr10 HX.out.2
          go_wp2_with fail
          obtain ⟨wq, hwq⟩ : ∃ wq, wr.drewN (nq + m1 + m2 + m3 + m4) = wq := ⟨_, rfl⟩
          rw [hwq]
          have hoq : wq.heap[bW]? = some (.cells (row64 (ext n (first16 bs))).toArray 88 (0, 0)) := by rw [← hwq]; exact HO.out
          have hrq : wq.heap[w.heap.size]? = some (.cells Z 88 (0, 0)) := by rw [← hwq]; exact HRQ.out
          have hbq : Below w.heap.size w wq := by rw [← hwq]; exact pw_below_drewN HBQ.out _
          have c0 := (blk_cell hoq t).trans (row64_rest HP.out.2.2.2.2.1 HP.out.2.2.2.2.2 hlt)
          have f0 := blk_frozen hoq t
          rw [HP.out.2.2.2.2.2] at hoq
          have g16 := (blk_cell hoq (t - 16)).trans (row64_get (by have := HP.out.2.2.2.2.1; omega))
          have g7 := (blk_cell hoq (t - 7)).trans (row64_get (by have := HP.out.2.2.2.2.1; omega))
          rw [HP.out.2.2.1] at g16
          rw [HP.out.2.2.2.1] at g7
          have HO2 := Lib.hid (blk_set hoq t)
          have HR2 := Lib.hid (fun u => (Below.heap_setCell wq ⟨bW, t, none⟩ u w.heap.size HBW.out.2).trans hrq)
          have HB2 := Lib.hid (fun u => hbq.setCell (p := ⟨bW, t, none⟩) HBW.out.1 u)
          clear hoq hrq hbq hwq
          obtain ⟨s, hs⟩ : ∃ s, sg0 x = s := ⟨_, rfl⟩
          obtain ⟨r, hr⟩ : ∃ r, sg1 y = r := ⟨_, rfl⟩
          have hs' : Go.bits .xor .u32 (Go.bits .xor .u32 (rrI x 7) (rrI x 18)) (x / 8) = s := hs
          have hr' : Go.bits .xor .u32 (Go.bits .xor .u32 (rrI y 17) (rrI y 19)) (y / 1024) = r := hr
          rw [hs', hr']
          have HSR := Lib.hid (And.intro hs hr)
          obtain ⟨j16, hj16⟩ : ∃ j, t - 16 = j := ⟨_, rfl⟩
          obtain ⟨j7, hj7⟩ : ∃ j, t - 7 = j := ⟨_, rfl⟩
          have w16 : wrap64 ((t : Int) - 16) = (j16 : Int) := (wrap64_id (by omega) (by omega)).trans (by omega)
          have w7 : wrap64 ((t : Int) - 7) = (j7 : Int) := (wrap64_id (by omega) (by omega)).trans (by omega)
          have v16 : IntKind.i64.wrap ((t : Int) - 16) = (j16 : Int) := by rw [IntKind.wrap_i64]; omega
          have v7 : IntKind.i64.wrap ((t : Int) - 7) = (j7 : Int) := by rw [IntKind.wrap_i64]; omega
          have b16 : j16 < 64 := by omega
          have b7 : j7 < 64 := by omega
          have b16' : (j16 : Int) < 64 := by omega
          have b7' : (j7 : Int) < 64 := by omega
          have bt' : (t : Int) < 64 := by omega
          rw [hj16] at g16
          rw [hj7] at g7
          clear hs hr hs' hr' g15 g2 e15 e2 e16 e7 hj16 hj7
          go_still_tail 15, (by kernel_rfl)
          change wpList _ _ _ _ _ wq.drew
          go_wp2
          go_roundw
          case rel =>
            refine ⟨n + 1, by omega, congrArg (Value.int .i64) (by omega), Lib.hid ⟨?_, (HR2.out _ :), below_drew (HB2.out _)⟩⟩
            rw [ext_step, HP.out.2.2.2.2.2, wAt_of HP.out.2.2.2.2.1 HP.out.1 HP.out.2.1 HP.out.2.2.1 HP.out.2.2.2.1, HSR.out.1, HSR.out.2]
            have h2 := row64_set (l := L) (by rw [HP.out.2.2.2.2.1]; exact hlt) (add32 (add32 (add32 p s) q) r)
            rw [HP.out.2.2.2.2.1] at h2
            rw [← h2, show add32 (add32 (add32 p s) q) r = (p + s + q + r) % 4294967296 by unfold add32; omega]
            exact HO2.out _
          case measure =>
            show (64 - ((t : Int) + 1)).toNat < (64 - (t : Int)).toNat
            omega
        · obtain rfl : t = 64 := by omega
          have hn48 : n = 48 := by omega
          subst hn48
          have HOF : Hid (wr.heap[bW]? = some (.cells (nums .u32 (wds bs)).toArray 88 (0, 0))) := Lib.hid (by rw [ho, ← row64_full (wds_len bs)]; rfl)
          have hwl := wds_len bs
          have HS2 := Lib.hid (show (Tryd.prog.info? 88).map (·.size) = some (nums .u32 (wds bs)).toArray.size by rw [(zero_of_info infoW).2]; simp [nums, hwl])
          have HZS := Lib.hid (show Z.size = (nums .u32 (wds bs)).toArray.size by rw [← HZ.out]; simp [nums, hwl, row64_len])
          have HO1 := Lib.hid (all_oneCell_toArray (nums_one .u32 (wds bs)))
          obtain ⟨V, hV⟩ : ∃ V, (nums .u32 (wds bs)).toArray = V := ⟨_, rfl⟩
          rw [hV] at HOF HS2 HZS HO1
          have HV := Lib.hid hV
          have HR3 : Hid (Value.agg (nums .u32 (wds bs)).toArray = .agg V) := Lib.hid (by rw [hV])
          clear ho hrs hb H hwl hV HO
          go_wp2_with (first | (refine wpList_load_row rfl 88 (.tmp 3) rfl bW rfl 88 V (0, 0) _ HOF.out Tryd.underlying88 rfl HS2.out ?_) | (refine wpList_store_row rfl 88 (.tmp 2) (.tmp 69) rfl w.heap.size V rfl rfl 88 Z HRQ.out HS2.out HZS.out HO1.out ?_))
          exact bodyPost_ret (results_cell_row rfl _ _ w.heap.size 88 V (0, 0) _ rfl (setRow_heap _ _ _ _ _ _ HRQ.out) Tryd.underlying88 rfl HS2.out) rfl ⟨by rw [HR3.out], below_setRow HBQ.out (Nat.le_refl _) _⟩
end Go.Proofs.YtpjkhecefppamaaDoor.Hand

/- A block's step: walked. -/
namespace Go.Proofs.YtpjkhecefppamaaDoor.Hand
open Go Go.RowKit Go.Proofs.YtpjkhecefppamaaDoor.Plain Go.Proofs.YtpjkhecefppamaaDoor.PAll Go.Proofs.YtpjkhecefppamaaDoorW.PrintWords Go.Proofs.YtpjkhecefppamaaDoorW.PrintLast Go.Proofs.YtpjkhecefppamaaDoorW.PrintMore
set_option linter.unusedVariables false
set_option linter.unusedSimpArgs false
set_option maxRecDepth 100000
theorem wpl_build {P : Program} {ops : Array Oper} {rest : List Oper} {o : Oper} {a : Act} {w : World} {Q : Exit → Act → World → Prop} (hgd : o.guard = none) (t : TypeId) (parts : Array (Nat × Operand)) (ho : o.op = .build t parts) (vs : Array (Nat × Value)) (hv : parts.map (fun p => (p.1, a.eval p.2)) = vs) (cells : Array Value) (hb : P.built t vs.toList = some cells)
    (h : wpList P ops Q rest (a.put o.dst (.agg cells)) w) : wpList P ops Q (o :: rest) a w := by
  refine wpList_plain hgd fun K hK => ?_
  unfold Oper.wp execOp
  simp only [ho, hv, run_build w t vs cells hb, Sem.run_bind, Sem.run_pure, Result.andThen_ok]
  exact hK _ _ h
theorem wpl_store_new {P : Program} {ops : Array Oper} {rest : List Oper} {o : Oper} {a : Act} {w : World} {Q : Exit → Act → World → Prop} (hgd : o.guard = none) (t : TypeId) (x y : Operand) (ho : o.op = .store t x y) (c c' : Array Value) (hx : a.eval x = .pointer (some ⟨w.heap.size, 0, none⟩)) (hy : a.eval y = .agg c')
    (hi : (P.info? t).map (·.size) = some c'.size) (hs : c.size = c'.size) (h1 : c'.all (·.oneCell') = true) (h : wpList P ops Q rest (a.put o.dst undef) (w.alloc (.cells c' t))) : wpList P ops Q (o :: rest) a (w.alloc (.cells c t)) := by
  refine wpList_plain hgd fun K hK => ?_
  unfold Oper.wp execOp
  simp only [ho, hx, hy, run_storeAt_new w t c c' hi hs h1, Sem.run_bind, Sem.run_pure, Result.andThen_ok]
  exact hK _ _ h
theorem not32n {x : Nat} (h : x < 2 ^ 32) : (4294967295 : Nat) ^^^ x = 4294967295 - x := by
  apply Nat.eq_of_testBit_eq
  intro i
  have h1 := Nat.testBit_two_pow_sub_succ h i
  rw [show 4294967295 - x = 2 ^ 32 - (x + 1) by omega, h1, Nat.testBit_xor, show (4294967295 : Nat) = 2 ^ 32 - 1 by decide, Nat.testBit_two_pow_sub_one]
  by_cases hi : i < 32
  · simp [hi]
  · have : x.testBit i = false := Nat.testBit_lt_two_pow (Nat.lt_of_lt_of_le h (Nat.pow_le_pow_right (by decide) (by omega)))
    simp [hi, this]
theorem xor32 (a b : Nat) (ha : a < 2 ^ 32) (hb : b < 2 ^ 32) : Go.bits .xor .u32 (a : Int) (b : Int) = ((a ^^^ b : Nat) : Int) := by
  have ha' : a % 2 ^ IntKind.u32.bits = a := Nat.mod_eq_of_lt ha
  have hb' : b % 2 ^ IntKind.u32.bits = b := Nat.mod_eq_of_lt hb
  simp only [Go.bits, BitVec.ofInt_natCast, BitVec.toNat_xor, BitVec.toNat_ofNat, ha', hb']
  rw [IntKind.wrap_u32]
  have := Nat.xor_lt_two_pow ha hb
  omega
theorem not32 {x : Int} (h0 : 0 ≤ x) (h1 : x < 4294967296) : Go.bits .xor .u32 (if IntKind.u32.signed = true then -1 else IntKind.u32.max) x = 4294967295 - x := by
  obtain ⟨n, rfl⟩ := Int.eq_ofNat_of_zero_le h0
  rw [show (if IntKind.u32.signed = true then (-1 : Int) else IntKind.u32.max) = ((4294967295 : Nat) : Int) from by decide]
  rw [xor32 _ _ (by decide) (by omega), not32n (by omega)]
  omega
theorem quietN {P : Program} {f : FuncId} {args : Array Value} {v : Value} (h : ∀ W, Calls P f args W fun e w' => e = .returned v ∧ Drawn0 W w') (W : World) (N : Nat) : Calls P f args (W.drewN N) fun e w' => e = .returned v ∧ ∃ M, w' = W.drewN M :=
  (h (W.drewN N)).mono fun e w' hh => by
    obtain ⟨he, ⟨nd, hd⟩⟩ := hh
    exact ⟨he, _, by rw [hd, World.drewN_drewN]⟩
/-- The table lies there. -/
def KT (w : World) : Prop := ∀ i : Nat, i < 64 → w.cell? ⟨0, i, none⟩ = some (.int .u32 (rd kT (i : Int)))
theorem KT.lt {w : World} (h : KT w) : 0 < w.heap.size := by
  have h0 := h 0 (by decide)
  unfold World.cell? at h0
  rcases Nat.lt_or_ge 0 w.heap.size with hlt | hge
  · exact hlt
  · rw [Array.getElem?_eq_none hge] at h0
    simp at h0
theorem KT.of_block {w w' : World} (h : KT w) (hb : w'.heap[(0 : Nat)]? = w.heap[(0 : Nat)]?) : KT w' := fun i hi => by
  have := h i hi
  unfold World.cell? at this ⊢
  simp only [hb]
  exact this
theorem KT.below {w w' : World} {B : Nat} (h : KT w) (hb : Below B w w') (hB : w.heap.size ≤ B) : KT w' := h.of_block (hb.block _ (Nat.lt_of_lt_of_le h.lt hB))
/-- The state's cells. -/
def s8 (s : St) : Array Value := #[.int .u32 s.a, .int .u32 s.b, .int .u32 s.c, .int .u32 s.d, .int .u32 s.e, .int .u32 s.f, .int .u32 s.g, .int .u32 s.h]
def St.wd (s : St) : Prop := (Wd s.a ∧ Wd s.b ∧ Wd s.c ∧ Wd s.d) ∧ (Wd s.e ∧ Wd s.f ∧ Wd s.g ∧ Wd s.h)
theorem round_wd {s : St} (h : s.wd) (k w : Int) : (round s k w).wd := ⟨⟨add32_wd _ _, h.1.1, h.1.2.1, h.1.2.2.1⟩, ⟨add32_wd _ _, h.2.1, h.2.2.1, h.2.2.2.1⟩⟩
theorem rounds_wd (ws : List Int) {s : St} (h : s.wd) : ∀ n, (rounds ws n s).wd
  | 0 => h
  | n + 1 => round_wd (rounds_wd ws h n) _ _
theorem info8 : (Tryd.prog.info? 80).map (fun i => (i.zero, i.size)) = some (some (.agg (s8 ⟨0, 0, 0, 0, 0, 0, 0, 0⟩)), 8) := by kernel_rfl
theorem s8_size (s : St) : (Tryd.prog.info? 80).map (·.size) = some (s8 s).size := (zero_of_info info8).2
theorem s8_one (s : St) : (s8 s).all (·.oneCell') = true := by simp [s8, Value.oneCell']
theorem s8_build (a b c d e f g h : Int) : Tryd.prog.built 80 [(0, .int .u32 a), (1, .int .u32 b), (2, .int .u32 c), (3, .int .u32 d), (4, .int .u32 e), (5, .int .u32 f), (6, .int .u32 g), (7, .int .u32 h)] = some (s8 ⟨a, b, c, d, e, f, g, h⟩) := by kernel_rfl
theorem pR_eq (s : St) (k w : Int) : pR s k w = (s.h + x3 (rrI s.e 6) (rrI s.e 11) (rrI s.e 25) + chO s.e s.f s.g + k + w) % 4294967296 := by
  unfold pR add32
  omega
/-- Eight words by their places. -/
def arrF (f : Nat → Int) : Array Value := ((List.range 8).map fun j => Value.int .u32 (f j)).toArray
theorem arrF_get (f : Nat → Int) {j : Nat} (h : j < 8) : (arrF f)[j]? = some (.int .u32 (f j)) := by simp [arrF, h]
theorem arrF_set (f : Nat → Int) {k : Nat} (h : k < 8) (x : Int) : (arrF f).setIfInBounds k (.int .u32 x) = arrF (fun j => if j = k then x else f j) := by
  apply Array.ext_getElem?
  intro j
  rw [Array.getElem?_setIfInBounds]
  by_cases hj : j < 8
  · rw [arrF_get _ hj]
    by_cases hk : k = j
    · subst hk
      simp [arrF, h]
    · rw [arrF_get _ hj, if_neg hk]
      simp [Ne.symm hk]
  · have h1 : (arrF f).size = 8 := by simp [arrF]
    have h2 : k ≠ j := by omega
    have h3 : ∀ g, (arrF g)[j]? = none := fun g => by simp [arrF]; omega
    simp [h2, h3]
def St.at8 (s : St) : Nat → Int
  | 0 => s.a
  | 1 => s.b
  | 2 => s.c
  | 3 => s.d
  | 4 => s.e
  | 5 => s.f
  | 6 => s.g
  | _ => s.h
theorem s8_arr (s : St) : s8 s = arrF s.at8 := rfl
def mixF (s v : St) (k j : Nat) : Int := if j < k then add32 (s.at8 j) (v.at8 j) else s.at8 j
theorem mix_0 (s v : St) : arrF (mixF s v 0) = s8 s := rfl
theorem mix_S (s v : St) {k : Nat} (h : k < 8) : (arrF (mixF s v k)).setIfInBounds k (.int .u32 (add32 (s.at8 k) (v.at8 k))) = arrF (mixF s v (k + 1)) := by
  rw [arrF_set _ h]
  congr 1
  funext j
  unfold mixF
  by_cases hj : j = k
  · subst hj
    simp
  · by_cases hk : j < k
    · simp [hj, hk, show j < k + 1 by omega]
    · simp [hj, hk, show ¬ j < k + 1 by omega]
theorem mix_8 (s : St) (b : List Int) : arrF (mixF s (rounds (wds b) 64 s) 8) = s8 (stepS s b) := rfl
theorem mix_at (s v : St) (k : Nat) : mixF s v k k = s.at8 k := by simp [mixF]
theorem round_is {sa sb sc sd se sf sg sh T1 T2 C1 M1 kk wk P1 Q1 : Int} (h1 : x3 (rrI se 6) (rrI se 11) (rrI se 25) = T1) (h2 : x3 (rrI sa 2) (rrI sa 13) (rrI sa 22) = T2) (h3 : chO se sf sg = C1) (h4 : maj sa sb sc = M1) (h5 : ((sh + T1 + C1 + kk) % 4294967296 + wk) % 4294967296 = P1) (h6 : (T2 + M1) % 4294967296 = Q1) :
    round ⟨sa, sb, sc, sd, se, sf, sg, sh⟩ kk wk = ⟨(P1 + Q1) % 4294967296, sa, sb, sc, (sd + P1) % 4294967296, se, sf, sg⟩ := by
  have hp : pR ⟨sa, sb, sc, sd, se, sf, sg, sh⟩ kk wk = P1 := by
    rw [pR_eq, ← h5]
    show (sh + x3 (rrI se 6) (rrI se 11) (rrI se 25) + chO se sf sg + kk + wk) % 4294967296 = _
    rw [h1, h3]
    omega
  unfold round
  rw [hp]
  unfold qR add32
  rw [h2, h4, h6]
set_option maxHeartbeats 1000000 in
set_option maxRecDepth 100000 in
theorem block_calls (s : St) (bs : List Int) (w : World) (hK : KT w) (hs : s.wd) (hl : bs.length = 64) (hby : ∀ x ∈ bs, 0 ≤ x ∧ x < 256) :
    Calls Tryd.prog 48 #[.agg (s8 s), .agg (nums .u8 bs).toArray] w fun e w' => e = .returned (.agg (s8 (stepS s bs))) ∧ Below w.heap.size w w' := by
  have HK := Lib.hid hK
  have HS := Lib.hid hs
  have HL := Lib.hid hl
  have HBY := Lib.hid hby
  have hz8 := (zero_of_info info8).1
  have hz := (zero_of_info infoW).1
  obtain ⟨Z, hZ⟩ : ∃ Z, (row64 []).toArray = Z := ⟨_, rfl⟩
  rw [hZ] at hz
  have HZ := Lib.hid hZ
  obtain ⟨Z8, hZ8⟩ : ∃ Z, s8 ⟨0, 0, 0, 0, 0, 0, 0, 0⟩ = Z := ⟨_, rfl⟩
  rw [hZ8] at hz8
  have HZ8 := Lib.hid hZ8
  obtain ⟨S0, hS0⟩ : ∃ S, s8 s = S := ⟨_, rfl⟩
  rw [hS0]
  have HS0 := Lib.hid hS0
  obtain ⟨BV, hBV⟩ : ∃ B, (nums .u8 bs).toArray = B := ⟨_, rfl⟩
  rw [hBV]
  have HBV := Lib.hid hBV
  clear hK hs hl hby hZ hZ8 hS0 hBV
  go_enter Tryd.func48, Tryd.ntmps48
  go_wp2_with fail
  have HB1 := Lib.hid (below_alloc (below_alloc (below_alloc (Below.refl w.heap.size w) (.cells S0 80)) (.cells BV 90)) (.cells Z8 80))
  have H2 := Lib.hid (blk_alloc (blk_alloc (heap_alloc_new w (.cells S0 80)) (.cells BV 90)) (.cells Z8 80))
  have H3 := Lib.hid (blk_alloc (show ((w.alloc (.cells S0 80)).alloc (.cells BV 90)).heap[w.heap.size + 1]? = some (.cells BV 90 (0, 0)) by
    have := heap_alloc_new (w.alloc (.cells S0 80)) (.cells BV 90)
    rw [World.size_alloc] at this
    exact this) (.cells Z8 80))
  have H4 := Lib.hid (show (((w.alloc (.cells S0 80)).alloc (.cells BV 90)).alloc (.cells Z8 80)).heap[w.heap.size + 1 + 1]? = some (.cells Z8 80 (0, 0)) by
    have := heap_alloc_new ((w.alloc (.cells S0 80)).alloc (.cells BV 90)) (.cells Z8 80)
    rw [World.size_alloc, World.size_alloc] at this
    exact this)
  have HWS := Lib.hid (show (((w.alloc (.cells S0 80)).alloc (.cells BV 90)).alloc (.cells Z8 80)).heap.size = w.heap.size + 3 by rw [World.size_alloc, World.size_alloc, World.size_alloc])
  obtain ⟨W1, hW1⟩ : ∃ W, (((w.alloc (.cells S0 80)).alloc (.cells BV 90)).alloc (.cells Z8 80)) = W := ⟨_, rfl⟩
  rw [hW1] at HB1 H2 H3 H4 HWS ⊢
  obtain ⟨b2, hb2⟩ : ∃ b, w.heap.size = b := ⟨_, rfl⟩
  rw [hb2] at H2 H3 H4 HB1 ⊢
  obtain ⟨b4, hb4⟩ : ∃ b, b2 + 1 + 1 = b := ⟨_, rfl⟩
  rw [hb4] at H4 ⊢
  have HBB := Lib.hid (And.intro hb2 hb4)
  clear hW1 hb2 hb4
  refine (spread_calls (b2 + 1) bs W1 (by rw [HBV.out]; exact H3.out) HL.out HBY.out).mono ?_
  rintro e w1 ⟨rfl, hb1⟩
  have H2b := Lib.hid ((hb1.block _ (blk_lt H2.out)).trans H2.out)
  have H4b := Lib.hid ((hb1.block _ (blk_lt H4.out)).trans H4.out)
  have HB2 := Lib.hid (HB1.out.trans (Below.mono hb1 (by have := HWS.out; have := HBB.out.1; omega)))
  have HLT := Lib.hid (show b4 < w1.heap.size from blk_lt H4b.out)
  have hwl := wds_len bs
  have HS2 := Lib.hid (show (Tryd.prog.info? 88).map (·.size) = some (nums .u32 (wds bs)).toArray.size by rw [(zero_of_info infoW).2]; simp [nums, hwl])
  have HZS := Lib.hid (show Z.size = (nums .u32 (wds bs)).toArray.size by rw [← HZ.out]; simp [nums, hwl, row64_len])
  have HO1 := Lib.hid (all_oneCell_toArray (nums_one .u32 (wds bs)))
  obtain ⟨ws, hws⟩ : ∃ W, wds bs = W := ⟨_, rfl⟩
  have HSW : Hid (∀ x ∈ ws, Wd x) := Lib.hid (by rw [← hws]; exact ext_wd _ _ (first16_wd bs))
  rw [hws] at HS2 HZS HO1 hwl ⊢
  have HWL := Lib.hid hwl
  have HWD := Lib.hid hws
  obtain ⟨V, hV⟩ : ∃ V, (nums .u32 ws).toArray = V := ⟨_, rfl⟩
  rw [hV] at HS2 HZS HO1 ⊢
  have HV := Lib.hid hV
  have HU8 := Lib.hid Tryd.underlying80
  have H88 := Lib.hid (And.intro (show (Tryd.prog.info? 80).map (·.size) = some S0.size by rw [← HS0.out]; exact s8_size s) (And.intro (show Z8.size = S0.size by rw [← HS0.out, ← HZ8.out]; rfl) (show S0.all (·.oneCell') = true by rw [← HS0.out]; exact s8_one s)))
  have HA := Lib.hid (blk_alloc H2b.out (.cells V 88))
  have HZ2 := Lib.hid (And.intro hz hz8)
  clear hws hwl hV hb1
  go_wp2_with (first | ((with_reducible show wpList _ _ _ (Oper.mk _ (Op.store 88 _ _) _ _ _ _ :: _) _ _); (refine wpl_store_new rfl 88 (.tmp 5) (.tmp 11) rfl Z V rfl rfl HS2.out HZS.out HO1.out ?_)) | ((with_reducible show wpList _ _ _ (Oper.mk _ (Op.load _ _) _ _ _ _ :: _) _ _); ((refine wpList_load_row rfl 80 (.tmp 2) rfl b2 rfl 80 S0 (0, 0) _ HA.out HU8.out rfl H88.out.1 ?_))) | ((with_reducible show wpList _ _ _ (Oper.mk _ (Op.store 80 _ _) _ _ _ _ :: _) _ _); ((refine wpl_store_new rfl 80 (.tmp 6) (.tmp 12) rfl Z8 S0 (by rw [World.size_alloc]; rfl) rfl H88.out.1 H88.out.2.1 H88.out.2.2 ?_))))
  have HV5 := Lib.hid (blk_alloc (heap_alloc_new w1 (.cells V 88)) (.cells S0 80))
  have HS6 := Lib.hid (show ((w1.alloc (.cells V 88)).alloc (.cells S0 80)).heap[w1.heap.size + 1]? = some (.cells S0 80 (0, 0)) by
    have := heap_alloc_new (w1.alloc (.cells V 88)) (.cells S0 80)
    rw [World.size_alloc] at this
    exact this)
  have H2c := Lib.hid (blk_alloc (blk_alloc H2b.out (.cells V 88)) (.cells S0 80))
  have H4c := Lib.hid (blk_alloc (blk_alloc H4b.out (.cells V 88)) (.cells S0 80))
  have HBc := Lib.hid ((HB2.out.alloc (by have := HLT.out; have := HBB.out; omega) (.cells V 88)).alloc (by rw [World.size_alloc]; have := HLT.out; have := HBB.out; omega) (.cells S0 80))
  obtain ⟨W2, hW2⟩ : ∃ W, ((w1.alloc (.cells V 88)).alloc (.cells S0 80)) = W := ⟨_, rfl⟩
  rw [hW2] at HV5 HS6 H2c H4c HBc ⊢
  obtain ⟨b5, hb5⟩ : ∃ b, w1.heap.size = b := ⟨_, rfl⟩
  have hlt5 := HLT.out
  rw [hb5] at HV5 HS6 hlt5 ⊢
  obtain ⟨b6, hb6⟩ : ∃ b, b5 + 1 = b := ⟨_, rfl⟩
  rw [hb6] at HS6 ⊢
  have HORD := Lib.hid (show b2 < b4 ∧ b4 < b5 ∧ b5 < b6 by have := HBB.out.2; omega)
  clear hW2 hb5 hb6 hlt5 HLT HA hz hz8
  go_loopw [13] (fun i wr => ∃ k : Nat, k ≤ 64 ∧ i = .int .i64 (k : Int) ∧ Hid (wr.heap[b6]? = some (.cells (s8 (rounds ws k s)) 80 (0, 0)) ∧ wr.heap[b5]? = some (.cells V 88 (0, 0)) ∧ wr.heap[b2]? = some (.cells S0 80 (0, 0)) ∧ wr.heap[b4]? = some (.cells Z8 80 (0, 0)) ∧ Below b2 w wr)) (fun i _ => (64 - intOf i).toNat)
  case atStart => exact ⟨0, by omega, rfl, Lib.hid ⟨by rw [HS6.out, ← HS0.out]; rfl, HV5.out, H2c.out, H4c.out, HBc.out⟩⟩
  case round =>
    obtain ⟨k, hk, rfl, H⟩ := hrel
    obtain ⟨h6, h5, h2, h4, hbl⟩ := H.out
    have H5 := Lib.hid h5
    have H2 := Lib.hid h2
    have H4 := Lib.hid h4
    have HBL := Lib.hid hbl
    by_cases hlt : k < 64
    · obtain ⟨st, hst⟩ : ∃ st, rounds ws k s = st := ⟨_, rfl⟩
      have hwd : st.wd := by rw [← hst]; exact rounds_wd ws HS.out k
      rw [hst] at h6
      have HST := Lib.hid hst
      have HWD2 := Lib.hid hwd
      have H6 := Lib.hid h6
      obtain ⟨sa, sb, sc, sd, se, sf, sg, sh⟩ := st
      obtain ⟨kk, hkk⟩ : ∃ x, rd kT (k : Int) = x := ⟨_, rfl⟩
      obtain ⟨wk, hwk⟩ : ∃ x, rd ws (k : Int) = x := ⟨_, rfl⟩
      have HKW := Lib.hid (And.intro hkk hwk)
      have hall : ∀ wx : World, wx.heap[b6]? = some (.cells (s8 ⟨sa, sb, sc, sd, se, sf, sg, sh⟩) 80 (0, 0)) → wx.heap[b5]? = some (.cells V 88 (0, 0)) → Below b2 w wx → (wx.cell? ⟨b6, 0, none⟩ = some (.int .u32 sa) ∧ wx.cell? ⟨b6, 1, none⟩ = some (.int .u32 sb) ∧ wx.cell? ⟨b6, 2, none⟩ = some (.int .u32 sc) ∧ wx.cell? ⟨b6, 3, none⟩ = some (.int .u32 sd) ∧ wx.cell? ⟨b6, 4, none⟩ = some (.int .u32 se) ∧ wx.cell? ⟨b6, 5, none⟩ = some (.int .u32 sf) ∧ wx.cell? ⟨b6, 6, none⟩ = some (.int .u32 sg) ∧ wx.cell? ⟨b6, 7, none⟩ = some (.int .u32 sh)) ∧ wx.cell? ⟨0, k, none⟩ = some (.int .u32 kk) ∧ wx.cell? ⟨b5, k, none⟩ = some (.int .u32 wk) := by
        intro wx h1 h2 h3
        refine ⟨⟨(blk_cell h1 0).trans rfl, (blk_cell h1 1).trans rfl, (blk_cell h1 2).trans rfl, (blk_cell h1 3).trans rfl, (blk_cell h1 4).trans rfl, (blk_cell h1 5).trans rfl, (blk_cell h1 6).trans rfl, (blk_cell h1 7).trans rfl⟩, ?_, ?_⟩
        · rw [← hkk]
          exact KT.below HK.out h3 (Nat.le_of_eq HBB.out.1) k hlt
        · rw [← hwk]
          refine (blk_cell h2 k).trans ?_
          rw [← HV.out]
          simp [nums, rd, HWL.out, hlt]
      have HALL := Lib.hid hall
      obtain ⟨⟨c0, c1, c2, c3, c4, c5, c6, c7⟩, ck, cw⟩ := hall wr h6 h5 hbl
      have i0 : (0 : Int) ≤ (k : Int) := by omega
      have i1 : (k : Int) < 64 := by omega
      obtain ⟨ne, hne⟩ : ∃ x, 4294967295 - se = x := ⟨_, rfl⟩
      have hnot : Go.bits .xor .u32 (if IntKind.u32.signed = true then -1 else IntKind.u32.max) se = ne := (not32 hwd.2.1.1 hwd.2.1.2).trans hne
      obtain ⟨C1, hC1⟩ : ∃ x, chO se sf sg = x := ⟨_, rfl⟩
      have hch : Go.bits .xor .u32 (Go.bits .and .u32 se sf) (Go.bits .and .u32 ne sg) = C1 := by rw [← hC1, ← hne]; rfl
      obtain ⟨M1, hM1⟩ : ∃ x, maj sa sb sc = x := ⟨_, rfl⟩
      have HMJ := Lib.hid (show Go.bits .xor .u32 (Go.bits .xor .u32 (Go.bits .and .u32 sa sb) (Go.bits .and .u32 sa sc)) (Go.bits .and .u32 sb sc) = M1 by rw [← hM1]; rfl)
      have HCM := Lib.hid (And.intro hC1 hM1)
      obtain ⟨T1, hT1⟩ : ∃ x, x3 (rrI se 6) (rrI se 11) (rrI se 25) = x := ⟨_, rfl⟩
      obtain ⟨T2, hT2⟩ : ∃ x, x3 (rrI sa 2) (rrI sa 13) (rrI sa 22) = x := ⟨_, rfl⟩
      have HTT := Lib.hid (And.intro hT1 hT2)
      have hf1 : sha2_turned.f se 6 11 25 = some T1 := (turned_I hwd.2.1 6 11 25 (by decide) (by decide) (by decide)).trans (by rw [hT1])
      have hf2 : sha2_turned.f sa 2 13 22 = some T2 := (turned_I hwd.1.1 2 13 22 (by decide) (by decide) (by decide)).trans (by rw [hT2])
      have HT1 := Lib.hid (show ∀ (W : World) (N : Nat), Calls Tryd.prog 51 #[.int .u32 se, .int .i64 6, .int .i64 11, .int .i64 25] (W.drewN N) fun e w' => e = .returned (.int .u32 T1) ∧ ∃ M, w' = W.drewN M from quietN fun W => sha2_turned.calls se 6 11 25 T1 W hf1)
      have HT2 := Lib.hid (show ∀ (W : World) (N : Nat), Calls Tryd.prog 51 #[.int .u32 sa, .int .i64 2, .int .i64 13, .int .i64 22] (W.drewN N) fun e w' => e = .returned (.int .u32 T2) ∧ ∃ M, w' = W.drewN M from quietN fun W => sha2_turned.calls sa 2 13 22 T2 W hf2)
      clear h6 h5 h2 h4 hbl H hst hwd hkk hwk hall hT1 hT2 hf1 hf2 hC1 hM1 hne
      go_wp2_with fail
      go_quiet ((go_at_call 51; exact HT1.out _ _))
      clear hnot hch c0 c1 c2 c3 c4 c5 c6 c7 ck cw
      obtain ⟨P1, hP1⟩ : ∃ x, ((sh + T1 + C1 + kk) % 4294967296 + wk) % 4294967296 = x := ⟨_, rfl⟩
      rw [hP1]
      have HP1 := Lib.hid hP1
      clear hP1
      obtain ⟨wq, hwq⟩ : ∃ wq, wr.drewN nq = wq := ⟨_, rfl⟩
      have HQ := Lib.hid (show wq.heap[b6]? = some (.cells (s8 ⟨sa, sb, sc, sd, se, sf, sg, sh⟩) 80 (0, 0)) ∧ wq.heap[b5]? = some (.cells V 88 (0, 0)) ∧ wq.heap[b2]? = some (.cells S0 80 (0, 0)) ∧ wq.heap[b4]? = some (.cells Z8 80 (0, 0)) ∧ Below b2 w wq by
        rw [← hwq]
        exact ⟨H6.out, H5.out, H2.out, H4.out, pw_below_drewN HBL.out nq⟩)
      rw [hwq]
      clear hwq H6 H5 H2 H4 HBL
      obtain ⟨⟨c0, c1, c2, c3, c4, c5, c6, c7⟩, ck, cw⟩ := HALL.out wq HQ.out.1 HQ.out.2.1 HQ.out.2.2.2.2
      have hmj := HMJ.out
      go_wp2_with fail
      go_quiet ((go_at_call 51; exact HT2.out _ _))
      clear hmj c0 c1 c2 c3 c4 c5 c6 c7 ck cw
      obtain ⟨Q1, hQ1⟩ : ∃ x, (T2 + M1) % 4294967296 = x := ⟨_, rfl⟩
      rw [hQ1]
      have HQ1 := Lib.hid hQ1
      clear hQ1
      obtain ⟨w3, hw3⟩ : ∃ wx, wq.drewN nq = wx := ⟨_, rfl⟩
      have H3 := Lib.hid (show w3.heap[b6]? = some (.cells (s8 ⟨sa, sb, sc, sd, se, sf, sg, sh⟩) 80 (0, 0)) ∧ w3.heap[b5]? = some (.cells V 88 (0, 0)) ∧ w3.heap[b2]? = some (.cells S0 80 (0, 0)) ∧ w3.heap[b4]? = some (.cells Z8 80 (0, 0)) ∧ Below b2 w w3 by
        rw [← hw3]
        exact ⟨HQ.out.1, HQ.out.2.1, HQ.out.2.2.1, HQ.out.2.2.2.1, pw_below_drewN HQ.out.2.2.2.2 nq⟩)
      rw [hw3]
      clear hw3 HQ HT1 HT2 HMJ
      obtain ⟨⟨c0, c1, c2, c3, c4, c5, c6, c7⟩, ck, cw⟩ := HALL.out w3 H3.out.1 H3.out.2.1 H3.out.2.2.2.2
      clear ck cw
      obtain ⟨OA, hOA⟩ : ∃ A, s8 ⟨sa, sb, sc, sd, se, sf, sg, sh⟩ = A := ⟨_, rfl⟩
      have H36 := Lib.hid (show w3.heap[b6]? = some (.cells OA 80 (0, 0)) from hOA ▸ H3.out.1)
      obtain ⟨NA, hNA⟩ : ∃ A, s8 ⟨(P1 + Q1) % 4294967296, sa, sb, sc, (sd + P1) % 4294967296, se, sf, sg⟩ = A := ⟨_, rfl⟩
      have HBLD := Lib.hid (show Tryd.prog.built 80 [(0, .int .u32 ((P1 + Q1) % 4294967296)), (1, .int .u32 sa), (2, .int .u32 sb), (3, .int .u32 sc), (4, .int .u32 ((sd + P1) % 4294967296)), (5, .int .u32 se), (6, .int .u32 sf), (7, .int .u32 sg)] = some NA from (s8_build ..).trans (by rw [hNA]))
      have HNS := Lib.hid (show (Tryd.prog.info? 80).map (·.size) = some NA.size ∧ OA.size = NA.size ∧ NA.all (·.oneCell') = true by
        rw [← hNA, ← hOA]
        exact ⟨s8_size _, rfl, s8_one _⟩)
      have HNA := Lib.hid hNA
      clear hOA hNA
      go_wp2_with (first | ((with_reducible show wpList _ _ _ (Oper.mk _ (Op.build _ _) _ _ _ _ :: _) _ _); (go_loud (refine wpl_build rfl 80 _ rfl #[(0, .int .u32 ((P1 + Q1) % 4294967296)), (1, .int .u32 sa), (2, .int .u32 sb), (3, .int .u32 sc), (4, .int .u32 ((sd + P1) % 4294967296)), (5, .int .u32 se), (6, .int .u32 sf), (7, .int .u32 sg)] (by first | rfl | (simp [Act.eval]; done)) NA HBLD.out ?_))) | ((with_reducible show wpList _ _ _ (Oper.mk _ (Op.store 80 _ _) _ _ _ _ :: _) _ _); (go_loud (refine wpList_store_row rfl 80 (.tmp 6) (.tmp 83) rfl b6 NA rfl rfl 80 OA H36.out HNS.out.1 HNS.out.2.1 HNS.out.2.2 ?_))))
      go_roundw
      case rel =>
        refine ⟨k + 1, by omega, by simp, Lib.hid ⟨?_, ?_, ?_, ?_, below_setRow H3.out.2.2.2.2 (by have := HORD.out; omega) _⟩⟩
        · rw [show rounds ws (k + 1) s = round (rounds ws k s) (rd kT (k : Int)) (rd ws (k : Int)) from rfl, HST.out, HKW.out.1, HKW.out.2, round_is HTT.out.1 HTT.out.2 HCM.out.1 HCM.out.2 HP1.out HQ1.out, HNA.out]
          exact setRow_heap _ _ _ _ _ _ H36.out
        · rw [setRow_other _ _ _ _ (by have := HORD.out; omega)]; exact H3.out.2.1
        · rw [setRow_other _ _ _ _ (by have := HORD.out; omega)]; exact H3.out.2.2.1
        · rw [setRow_other _ _ _ _ (by have := HORD.out; omega)]; exact H3.out.2.2.2.1
      case measure => simp only [intOf]; omega
    · obtain rfl : k = 64 := by omega
      obtain ⟨v, hv⟩ : ∃ v, rounds ws 64 s = v := ⟨_, rfl⟩
      rw [hv] at h6
      have HVV := Lib.hid hv
      have H6 := Lib.hid h6
      have H0 := Lib.hid (show wr.heap[b2]? = some (.cells (arrF (mixF s v 0)) 80 (0, 0)) from by rw [mix_0, HS0.out]; exact h2)
      clear h6 h5 h2 h4 hbl H hk hlt hv H5 H2 HV5 HS6 H2c H4c HBc
      rw [show ((64 : Nat) : Int) = 64 from rfl]
      go_wp2_with fail
      go_loopw [85] (fun i wx => ∃ k : Nat, k ≤ 8 ∧ i = .int .i64 (k : Int) ∧ Hid (wx.heap[b2]? = some (.cells (arrF (mixF s v k)) 80 (0, 0)) ∧ wx.heap[b6]? = some (.cells (s8 v) 80 (0, 0)) ∧ wx.heap[b4]? = some (.cells Z8 80 (0, 0)) ∧ Below b2 w wx)) (fun i _ => (8 - intOf i).toNat)
      case atStart => exact ⟨0, by omega, rfl, Lib.hid ⟨H0.out, H6.out, H4.out, HBL.out⟩⟩
      case round =>
        obtain ⟨k, hk, rfl, H⟩ := hrel
        obtain ⟨h2, h6, h4, hbl⟩ := H.out
        by_cases hlt : k < 8
        · have c0 := (blk_cell h2 k).trans (arrF_get _ hlt)
          have c1 := (blk_cell h6 k).trans (show (s8 v)[k]? = some (.int .u32 (v.at8 k)) by rw [s8_arr]; exact arrF_get _ hlt)
          rw [mix_at] at c0
          have f0 := blk_frozen h2 k
          obtain ⟨x, hx⟩ : ∃ x, s.at8 k = x := ⟨_, rfl⟩
          obtain ⟨y, hy⟩ : ∃ x, v.at8 k = x := ⟨_, rfl⟩
          rw [hx] at c0
          rw [hy] at c1
          have HN := Lib.hid (show ∀ u : World, u.heap[b2]? = wr.heap[b2]? → u.heap[b6]? = wr.heap[b6]? → u.heap[b4]? = wr.heap[b4]? → Below b2 w u → (u.setCell ⟨b2, k, none⟩ (.int .u32 ((x + y) % 4294967296))).heap[b2]? = some (.cells (arrF (mixF s v (k + 1))) 80 (0, 0)) ∧ (u.setCell ⟨b2, k, none⟩ (.int .u32 ((x + y) % 4294967296))).heap[b6]? = some (.cells (s8 v) 80 (0, 0)) ∧ (u.setCell ⟨b2, k, none⟩ (.int .u32 ((x + y) % 4294967296))).heap[b4]? = some (.cells Z8 80 (0, 0)) ∧ Below b2 w (u.setCell ⟨b2, k, none⟩ (.int .u32 ((x + y) % 4294967296))) from by
            intro u u2 u6 u4 ub
            refine ⟨?_, ?_, ?_, ub.setCell (p := ⟨b2, k, none⟩) (Nat.le_refl _) _⟩
            · rw [← mix_S s v hlt, hx, hy]
              exact blk_set (u2.trans h2) k _
            · rw [Below.heap_setCell _ _ _ _ (show b6 ≠ b2 by have := HORD.out; omega)]; exact u6.trans h6
            · rw [Below.heap_setCell _ _ _ _ (show b4 ≠ b2 by have := HORD.out; omega)]; exact u4.trans h4)
          have i0 : (0 : Int) ≤ (k : Int) := by omega
          have i1 : (k : Int) < 8 := by omega
          have HBX := Lib.hid hbl
          clear h2 h6 h4 hbl H hx hy
          go_wp2_with fail
          go_region
          go_wp2
          go_roundw
          case rel =>
            have := HN.out wr rfl rfl rfl HBX.out
            exact ⟨k + 1, by omega, by simp, Lib.hid ⟨this.1, this.2.1, this.2.2.1, below_drew this.2.2.2⟩⟩
          case measure => simp only [intOf]; omega
        · obtain rfl : k = 8 := by omega
          obtain ⟨RA, hRA⟩ : ∃ A, s8 (stepS s bs) = A := ⟨_, rfl⟩
          have HF := Lib.hid (show wr.heap[b2]? = some (.cells RA 80 (0, 0)) by
            rw [h2, ← hRA, ← mix_8, ← HVV.out, HWD.out])
          have HRS := Lib.hid (show (Tryd.prog.info? 80).map (·.size) = some RA.size ∧ Z8.size = RA.size ∧ RA.all (·.oneCell') = true by
            rw [← hRA, ← HZ8.out]
            exact ⟨s8_size _, rfl, s8_one _⟩)
          have HG4 := Lib.hid h4
          have HBX := Lib.hid hbl
          have HRR := Lib.hid hRA
          clear h2 h6 h4 hbl H hRA
          rw [show ((8 : Nat) : Int) = 8 from rfl]
          go_wp2_with (first | ((with_reducible show wpList _ _ _ (Oper.mk _ (Op.load _ _) _ _ _ _ :: _) _ _); (go_loud (refine wpList_load_row rfl 80 (.tmp 2) rfl b2 rfl 80 RA (0, 0) _ HF.out HU8.out rfl HRS.out.1 ?_))) | ((with_reducible show wpList _ _ _ (Oper.mk _ (Op.store _ _ _) _ _ _ _ :: _) _ _); (go_loud (refine wpList_store_row rfl 80 (.tmp 4) (.tmp 97) rfl b4 RA rfl rfl 80 Z8 HG4.out HRS.out.1 HRS.out.2.1 HRS.out.2.2 ?_))))
          exact bodyPost_ret (results_cell_row rfl _ _ b4 80 RA (0, 0) _ rfl (setRow_heap _ _ _ _ _ _ HG4.out) HU8.out rfl HRS.out.1) rfl ⟨by rw [HRR.out], by rw [HBB.out.1]; exact below_setRow HBX.out (by have := HORD.out; omega) _⟩
end Go.Proofs.YtpjkhecefppamaaDoor.Hand

/- The hasher: what it computes. -/
namespace Go.Proofs.YtpjkhecefppamaaDoor.Hand
open Go Go.RowKit Go.Proofs.YtpjkhecefppamaaDoor.Plain Go.Proofs.YtpjkhecefppamaaDoor.PAll Go.Proofs.YtpjkhecefppamaaDoorW.PrintWords Go.Proofs.YtpjkhecefppamaaDoorW.PrintLast Go.Proofs.YtpjkhecefppamaaDoorW.PrintMore
set_option linter.unusedVariables false
set_option linter.unusedSimpArgs false
set_option maxRecDepth 100000
def F0 : St := ⟨1779033703, 3144134277, 1013904242, 2773480762, 1359893119, 2600822924, 528734635, 1541459225⟩
/-- The state behind so many blocks of a text. -/
def stN (bs : List Int) : Nat → St
  | 0 => F0
  | n + 1 => stepS (stN bs n) ((bs.drop (64 * n)).take 64)
def stOf (bs : List Int) : St := stN bs (bs.length / 64)
theorem stN_app (bs ys : List Int) : ∀ n, 64 * n ≤ bs.length → stN (bs ++ ys) n = stN bs n
  | 0, _ => rfl
  | n + 1, h => by
    unfold stN
    rw [stN_app bs ys n (by omega), List.drop_append_of_le_length (by omega), List.take_append_of_le_length (by simp; omega)]
/-- What the block holds behind a text: its last bytes, and whatever lay there. -/
def IsBlk (bs blk : List Int) : Prop := blk.length = 64 ∧ (∀ x ∈ blk, 0 ≤ x ∧ x < 256) ∧ blk.take (bs.length % 64) = bs.drop (64 * (bs.length / 64))
def putB (blk : List Int) (o : Nat) (zs : List Int) : List Int := blk.take o ++ (zs ++ blk.drop (o + zs.length))
theorem putB_len {blk zs : List Int} {o : Nat} (h : blk.length = 64) (ho : o + zs.length ≤ 64) : (putB blk o zs).length = 64 := by
  simp [putB]
  omega
theorem putB_bytes {blk zs : List Int} {o : Nat} (h : ∀ x ∈ blk, 0 ≤ x ∧ x < 256) (hz : ∀ x ∈ zs, 0 ≤ x ∧ x < 256) : ∀ x ∈ putB blk o zs, 0 ≤ x ∧ x < 256 := by
  intro x hx
  simp only [putB, List.mem_append] at hx
  rcases hx with hx | hx | hx
  · exact h x (List.mem_of_mem_take hx)
  · exact hz x hx
  · exact h x (List.mem_of_mem_drop hx)
/-- Bytes that don't fill the block. -/
theorem blk_part {L blk zs : List Int} (h : IsBlk L blk) (hz : ∀ x ∈ zs, 0 ≤ x ∧ x < 256) (hk : L.length % 64 + zs.length < 64) : IsBlk (L ++ zs) (putB blk (L.length % 64) zs) ∧ stOf (L ++ zs) = stOf L := by
  obtain ⟨h1, h2, h3⟩ := h
  have hl : (L ++ zs).length = L.length + zs.length := List.length_append
  have e1 : (L ++ zs).length / 64 = L.length / 64 := by omega
  have e2 : (L ++ zs).length % 64 = L.length % 64 + zs.length := by omega
  refine ⟨⟨putB_len h1 (by omega), putB_bytes h2 hz, ?_⟩, ?_⟩
  · rw [e1, e2]
    unfold putB
    rw [← List.append_assoc, List.take_append_of_le_length (by simp; omega), List.take_of_length_le (by simp; omega), h3, List.drop_append_of_le_length (by omega)]
  · unfold stOf
    rw [e1, stN_app _ _ _ (by omega)]
/-- Bytes that fill it. -/
theorem blk_full {L blk zs : List Int} (h : IsBlk L blk) (hz : ∀ x ∈ zs, 0 ≤ x ∧ x < 256) (hk : L.length % 64 + zs.length = 64) : IsBlk (L ++ zs) (putB blk (L.length % 64) zs) ∧ stOf (L ++ zs) = stepS (stOf L) (putB blk (L.length % 64) zs) := by
  obtain ⟨h1, h2, h3⟩ := h
  have hl : (L ++ zs).length = L.length + zs.length := List.length_append
  have e1 : (L ++ zs).length / 64 = L.length / 64 + 1 := by omega
  have e2 : (L ++ zs).length % 64 = 0 := by omega
  refine ⟨⟨putB_len h1 (by omega), putB_bytes h2 hz, ?_⟩, ?_⟩
  · rw [e1, e2, List.take_zero, List.drop_of_length_le (by rw [hl]; omega)]
  · unfold stOf
    rw [e1]
    show stepS (stN (L ++ zs) (L.length / 64)) _ = _
    rw [stN_app _ _ _ (by omega)]
    congr 1
    rw [List.drop_append_of_le_length (by omega), ← h3]
    unfold putB
    rw [List.take_of_length_le (by simp; omega), List.drop_of_length_le (by omega), List.append_nil]
/-- Where the end begins: how many nulls. -/
def padZ (n : Nat) : Nat := (119 - n % 64) % 64
def great (d n : Nat) : List Int := (digs d n).reverse
def padB (bs : List Int) : List Int := bs ++ (128 :: List.replicate (padZ bs.length) 0) ++ great 8 (8 * bs.length)
/-- The eight words as bytes. -/
def outB (s : St) : List Int := great 4 s.a.toNat ++ great 4 s.b.toNat ++ great 4 s.c.toNat ++ great 4 s.d.toNat ++ great 4 s.e.toNat ++ great 4 s.f.toNat ++ great 4 s.g.toNat ++ great 4 s.h.toNat
/-- A text's sum. -/
def sumP (bs : List Int) : List Int := outB (stOf (padB bs))
def twiceP (bs : List Int) : List Int := sumP (sumP bs)
theorem great_len (d n : Nat) : (great d n).length = d := by simp [great, digs_length]
theorem great_bytes (d n : Nat) : ∀ x ∈ great d n, 0 ≤ x ∧ x < 256 := fun x hx => digs_bytes d n x (by simpa [great] using hx)
theorem outB_len (s : St) : (outB s).length = 32 := by simp [outB, great_len]
theorem sumP_len (bs : List Int) : (sumP bs).length = 32 := outB_len _
theorem outB_bytes (s : St) : ∀ x ∈ outB s, 0 ≤ x ∧ x < 256 := by
  intro x hx
  simp only [outB, List.mem_append] at hx
  rcases hx with ((((((hx | hx) | hx) | hx) | hx) | hx) | hx) | hx <;> exact great_bytes _ _ x hx
theorem sumP_bytes (bs : List Int) : ∀ x ∈ sumP bs, 0 ≤ x ∧ x < 256 := outB_bytes _
theorem padB_len (bs : List Int) : (padB bs).length % 64 = 0 := by
  simp [padB, great_len, padZ]
  omega
theorem F0_wd : F0.wd := by unfold St.wd Wd F0; decide
theorem stepS_wd (s : St) (b : List Int) : (stepS s b).wd := ⟨⟨add32_wd _ _, add32_wd _ _, add32_wd _ _, add32_wd _ _⟩, ⟨add32_wd _ _, add32_wd _ _, add32_wd _ _, add32_wd _ _⟩⟩
theorem stN_wd (bs : List Int) : ∀ n, (stN bs n).wd
  | 0 => F0_wd
  | n + 1 => stepS_wd _ _
theorem stOf_wd (bs : List Int) : (stOf bs).wd := stN_wd _ _
theorem padB_bytes {bs : List Int} (h : ∀ x ∈ bs, 0 ≤ x ∧ x < 256) : ∀ x ∈ padB bs, 0 ≤ x ∧ x < 256 := by
  intro x hx
  simp only [padB, List.mem_append, List.mem_cons, List.mem_replicate] at hx
  rcases hx with (hx | rfl | ⟨_, rfl⟩) | hx
  · exact h x hx
  · decide
  · decide
  · exact great_bytes _ _ x hx
end Go.Proofs.YtpjkhecefppamaaDoor.Hand

/- The hasher: made, written to. -/
namespace Go.Proofs.YtpjkhecefppamaaDoor.Hand
open Go Go.RowKit Go.Proofs.YtpjkhecefppamaaDoor.Plain Go.Proofs.YtpjkhecefppamaaDoor.PAll Go.Proofs.YtpjkhecefppamaaDoorW.PrintWords Go.Proofs.YtpjkhecefppamaaDoorW.PrintLast Go.Proofs.YtpjkhecefppamaaDoorW.PrintMore
set_option linter.unusedVariables false
set_option linter.unusedSimpArgs false
set_option maxRecDepth 100000
def words (s : St) : List Value := [.int .u32 s.a, .int .u32 s.b, .int .u32 s.c, .int .u32 s.d, .int .u32 s.e, .int .u32 s.f, .int .u32 s.g, .int .u32 s.h]
theorem words_s8 (s : St) : (words s).toArray = s8 s := rfl
theorem words_one (s : St) : ∀ v ∈ words s, v.oneCell' = true := by simp [words, Value.oneCell']
def hCells (s : St) (blk : List Int) (n : Int) : List Value := words s ++ (nums .u8 blk ++ [.int .i64 n])
def z64 : List Int := List.replicate 64 0
theorem hc_len {s : St} {blk : List Int} {n : Int} (h : blk.length = 64) : (hCells s blk n).length = 73 := by simp [hCells, words, nums, h]
theorem hc_n {s : St} {blk : List Int} {n : Int} (h : blk.length = 64) : (hCells s blk n).toArray[72]? = some (.int .i64 n) := by
  unfold hCells
  rw [List.getElem?_toArray, List.getElem?_append_right (by simp [words]), List.getElem?_append_right (by simp [words, nums, h])]
  simp [words, nums, h]
theorem hc_setn {s : St} {blk : List Int} {n m : Int} (h : blk.length = 64) : (hCells s blk n).toArray.setIfInBounds 72 (.int .i64 m) = (hCells s blk m).toArray := by
  unfold hCells
  have h1 : (words s).length = 8 := rfl
  have h2 : (nums .u8 blk).length = 64 := by simp [nums, h]
  rw [List.setIfInBounds_toArray, List.set_append_right _ _ (by omega), List.set_append_right _ _ (by omega), h1, h2]
  rfl
theorem hc_splice {s : St} {blk zs : List Int} {n : Int} {o : Nat} (h : blk.length = 64) (ho : o + zs.length ≤ 64) : (hCells s blk n).toArray.toList.take (8 + o) ++ (nums .u8 zs ++ (hCells s blk n).toArray.toList.drop (8 + o + (nums .u8 zs).length)) = hCells s (putB blk o zs) n := by
  have h1 : (words s).length = 8 := rfl
  have h2 : (nums .u8 blk).length = 64 := by simp [nums, h]
  have h3 : (nums .u8 zs).length = zs.length := by simp [nums]
  show (hCells s blk n).take (8 + o) ++ (nums .u8 zs ++ (hCells s blk n).drop (8 + o + (nums .u8 zs).length)) = _
  unfold hCells putB
  rw [h3, List.take_append, List.drop_append, h1, List.take_of_length_le (by omega), List.drop_of_length_le (l := words s) (by omega), List.take_append, List.drop_append, h2]
  rw [show 8 + o - 8 - 64 = 0 by omega, List.take_zero, List.append_nil, show 8 + o - 8 = o by omega, show 8 + o + zs.length - 8 = o + zs.length by omega, show o + zs.length - 64 = 0 by omega, List.drop_zero]
  simp [nums, List.map_append, List.map_take, List.map_drop]
theorem info_h : (Tryd.prog.info? 92).map (fun i => (i.zero, i.size)) = some (some (.agg (hCells ⟨0, 0, 0, 0, 0, 0, 0, 0⟩ z64 0).toArray), 73) := by kernel_rfl
theorem info_b64 : (Tryd.prog.info? 90).map (·.size) = some 64 := by kernel_rfl
theorem built_new : Tryd.prog.built 92 [(0, .agg (s8 F0))] = some (hCells F0 z64 0).toArray := by kernel_rfl
/-- A hasher that was given a text. -/
def IsH (w : World) (B g : Nat) (bs : List Int) : Prop := B ≤ g ∧ ∃ blk, IsBlk bs blk ∧ w.heap[g]? = some (.cells (hCells (stOf bs) blk (bs.length : Int)).toArray 92 (0, 0))
theorem IsH.lt {w : World} {B g : Nat} {bs : List Int} (h : IsH w B g bs) : g < w.heap.size := by
  obtain ⟨_, blk, _, hb⟩ := h
  exact blk_lt hb
theorem IsH.keep {w w' : World} {B g : Nat} {bs : List Int} (h : IsH w B g bs) (hk : w'.heap[g]? = w.heap[g]?) : IsH w' B g bs := by
  obtain ⟨h0, blk, h1, hb⟩ := h
  exact ⟨h0, blk, h1, hk.trans hb⟩
theorem IsH.below {w w' : World} {B g : Nat} {bs : List Int} (h : IsH w B g bs) (hb : Below w.heap.size w w') : IsH w' B g bs := h.keep (hb.block g h.lt)
theorem isBlk_nil : IsBlk [] z64 := ⟨by simp [z64], by intro x hx; simp [z64] at hx; omega, by simp⟩
set_option maxHeartbeats 1000000 in
set_option maxRecDepth 100000 in
theorem first_calls (w : World) :
    Calls Tryd.prog 47 #[] w fun e w' => e = .returned (.agg (s8 F0)) ∧ Below w.heap.size w w' := by
  have hz := (zero_of_info info8).1
  obtain ⟨Z, hZ⟩ : ∃ Z, s8 ⟨0, 0, 0, 0, 0, 0, 0, 0⟩ = Z := ⟨_, rfl⟩
  rw [hZ] at hz
  obtain ⟨V, hV⟩ : ∃ V, s8 F0 = V := ⟨_, rfl⟩
  have HB := Lib.hid (s8_build 1779033703 3144134277 1013904242 2773480762 1359893119 2600822924 528734635 1541459225)
  have hV2 : s8 ⟨1779033703, 3144134277, 1013904242, 2773480762, 1359893119, 2600822924, 528734635, 1541459225⟩ = V := hV
  rw [hV2] at HB
  rw [hV]
  have HS := Lib.hid (show (Tryd.prog.info? 80).map (·.size) = some V.size ∧ Z.size = V.size ∧ V.all (·.oneCell') = true by
    rw [← hV, ← hZ]
    exact ⟨s8_size _, rfl, s8_one _⟩)
  clear hZ hV hV2
  go_enter Tryd.func47, Tryd.ntmps47
  go_wp2_with (first | ((with_reducible show wpList _ _ _ (Oper.mk _ (Op.build _ _) _ _ _ _ :: _) _ _); (go_loud (refine wpl_build rfl 80 _ rfl #[(0, .int .u32 1779033703), (1, .int .u32 3144134277), (2, .int .u32 1013904242), (3, .int .u32 2773480762), (4, .int .u32 1359893119), (5, .int .u32 2600822924), (6, .int .u32 528734635), (7, .int .u32 1541459225)] (by simp [Act.eval]) V HB.out ?_))) | ((with_reducible show wpList _ _ _ (Oper.mk _ (Op.store _ _ _) _ _ _ _ :: _) _ _); (go_loud (refine wpl_store_new rfl 80 (.tmp 0) (.tmp 1) rfl Z V rfl rfl HS.out.1 HS.out.2.1 HS.out.2.2 ?_))))
  exact bodyPost_ret (results_cell_row rfl _ _ w.heap.size 80 V (0, 0) _ rfl (heap_alloc_new w _) Tryd.underlying80 rfl HS.out.1) rfl ⟨rfl, below_alloc (Below.refl _ _) _⟩
set_option maxHeartbeats 1000000 in
set_option maxRecDepth 100000 in
theorem new_calls (w : World) :
    Calls Tryd.prog 42 #[] w fun e w' => ∃ g, e = .returned (.pointer (some ⟨g, 0, none⟩)) ∧ IsH w' w.heap.size g [] ∧ Below w.heap.size w w' := by
  obtain ⟨V, hV⟩ : ∃ V, s8 F0 = V := ⟨_, rfl⟩
  obtain ⟨C, hC⟩ : ∃ C, (hCells F0 z64 0).toArray = C := ⟨_, rfl⟩
  have HB := Lib.hid built_new
  rw [hV, hC] at HB
  have HC := Lib.hid hC
  have HV := Lib.hid hV
  clear hV hC
  go_enter Tryd.func42, Tryd.ntmps42
  go_wp2_with fail
  refine (first_calls _).mono ?_
  rw [HV.out]
  rintro e w1 ⟨rfl, hb1⟩
  have HB1 := Lib.hid hb1
  clear hb1
  go_wp2_with ((with_reducible show wpList _ _ _ (Oper.mk _ (Op.build _ _) _ _ _ _ :: _) _ _); (go_loud (refine wpl_build rfl 92 _ rfl #[(0, .agg V)] (by simp [Act.eval]) C HB.out ?_)))
  refine bodyPost_ret (v := .pointer (some ⟨w1.heap.size, 0, none⟩)) (by simp [results, Tryd.results42, go_sem]) rfl ?_
  refine ⟨_, rfl, ⟨HB1.out.size, z64, isBlk_nil, ?_⟩, HB1.out.alloc HB1.out.size _⟩
  rw [heap_alloc_new, ← HC.out]
  rfl
end Go.Proofs.YtpjkhecefppamaaDoor.Hand

/- The hasher is written to. -/
namespace Go.Proofs.YtpjkhecefppamaaDoor.Hand
open Go Go.RowKit Go.Proofs.YtpjkhecefppamaaDoor.Plain Go.Proofs.YtpjkhecefppamaaDoor.PAll Go.Proofs.YtpjkhecefppamaaDoorW.PrintWords Go.Proofs.YtpjkhecefppamaaDoorW.PrintLast Go.Proofs.YtpjkhecefppamaaDoorW.PrintMore
set_option linter.unusedVariables false
set_option linter.unusedSimpArgs false
set_option maxRecDepth 100000
/-- Bytes that are read, not out of block g. -/
def SrcRow (w : World) (g : Nat) (A : Option Addr) (ys : List Int) : Prop := ∃ ad : Addr, 0 < ys.length → A = some ad ∧ ad.block ≠ g ∧ ad.block < w.heap.size ∧ ∀ j : Nat, j < ys.length → w.cell? (ad.add j) = some (.int .u8 (rd ys (j : Int)))
theorem add_block (ad : Addr) (j : Nat) : (ad.add j).block = ad.block := by unfold Addr.add; split <;> rfl
theorem add_add (ad : Addr) (i j : Nat) : (ad.add i).add j = ad.add (i + j) := by
  by_cases hi : i = 0
  · subst hi
    simp [Addr.add]
  · by_cases hj : j = 0
    · subst hj
      simp [Addr.add, hi]
    · simp [Addr.add, hi, hj, show i + j ≠ 0 by omega]
      omega
theorem SrcRow.of {w : World} {g : Nat} {A : Option Addr} {ys : List Int} (h : Kd.C (Kd.int .u8) w A ys.length ys) (hg : ∀ ad, A = some ad → ad.block ≠ g) : SrcRow w g A ys := by
  by_cases h0 : 0 < ys.length
  · obtain ⟨ad, hA, hc⟩ := C_cells h h0
    refine ⟨ad, fun _ => ⟨hA, hg ad hA, ?_, fun j hj => hc j _ (by simp [nums, rd, hj])⟩⟩
    have := block_lt_of_cell (hc 0 (.int .u8 (rd ys 0)) (by simp [nums, rd, h0]))
    rwa [add_block] at this
  · exact ⟨⟨0, 0, none⟩, fun h => absurd h h0⟩
theorem slice_h (W : World) (g at_ : Nat) (ha : at_ < 64) : (Instr.sliceAt 90 (.pointer (some ⟨g, 8, none⟩)) (some (.int .i64 (at_ : Int))) none none).run Tryd.prog W = .ok (.slice (some ⟨g, 8 + at_, none⟩) (64 - at_) (64 - at_)) W := by
  rw [run_sliceAt_array_l W 90 ⟨g, 8, none⟩ arr64b.1 .i64 at_ (by omega) (by rw [arr64b.2]; omega)]
  have z : (sizeOf (Tryd.prog.elem 90)).run Tryd.prog W = .ok 1 W := by rfl
  rw [z, arr64b.2]
  simp only [slicedAt, Result.andThen, Int.toNat_natCast, Nat.mul_one, Addr.add_mid]
  rw [if_neg (by omega)]
theorem slice_t (W : World) (A : Option Addr) (m c k : Nat) (hk : k ≤ m) : (Instr.sliceAt 28 (.slice A m c) (some (.int .i64 (k : Int))) none none).run Tryd.prog W = .ok (.slice (if c = k then A else A.map (·.add k)) (m - k) (c - k)) W := by
  have hu : Tryd.prog.underlying 28 = some (.slice (Tryd.prog.elem 28)) := by kernel_rfl
  rw [run_sliceAt_slice W 28 _ _ _ _ hu, run_slice_l W 28 A m c hu .i64 k (by omega) (by omega)]
  have z : (sizeOf (Tryd.prog.elem 28)).run Tryd.prog W = .ok 1 W := by rfl
  rw [z]
  simp [sliced, Result.andThen]
attribute [local go_sem ↓] Go.wp_at_zero Go.wp_at_succ
set_option maxHeartbeats 600000 in
set_option maxRecDepth 100000 in
theorem write_calls {w : World} {B g : Nat} {bs : List Int} (h : IsH w B g bs) (A : Option Addr) (c n : Nat) (ys : List Int) (hn : ys.length = n) (hr : SrcRow w g A ys) (hc : n ≤ c) (hy : ∀ x ∈ ys, 0 ≤ x ∧ x < 256) (hl : bs.length + n ≤ 1000000) (hB : B ≤ w.heap.size) (hK : KT w) (hKB : 0 < B) :
    Calls Tryd.prog 43 #[.pointer (some ⟨g, 0, none⟩), .slice A n c] w fun e w' => e = .returned (.tuple #[]) ∧ IsH w' B g (bs ++ ys) ∧ Below B w w' ∧ KeepBut w w' g none := by
  obtain ⟨ad, had⟩ := hr
  rw [hn] at had
  have HAD := Lib.hid had
  have HN := Lib.hid hn
  have HY := Lib.hid hy
  have HL := Lib.hid hl
  have HH := Lib.hid h
  have HBS := Lib.hid hB
  have HLT := Lib.hid h.lt
  have HBG := Lib.hid h.1
  have HK := Lib.hid hK
  have HU := Lib.hid Tryd.underlying28
  have HS1 := Lib.hid (show (Tryd.prog.info? 5).map (·.size) = some 1 by kernel_rfl)
  have HKB := Lib.hid hKB
  clear had hn hy hl h hB hK hKB
  go_enter Tryd.func43, Tryd.ntmps43
  go_wp2_with fail
  go_loopw [1] (fun v wr => ∃ (j : Nat) (A' : Option Addr) (c' : Nat), j ≤ n ∧ v = .slice A' (n - j) c' ∧ n - j ≤ c' ∧ (j < n → A' = some (ad.add j)) ∧ Hid (IsH wr B g (bs ++ ys.take j) ∧ Below B w wr ∧ KeepBut w wr g none)) (fun v _ => match v with | .slice _ m _ => m | _ => 0)
  case atStart => exact ⟨0, A, c, by omega, rfl, by omega, fun h => by rw [(HAD.out h).1]; rfl, Lib.hid ⟨by rw [List.take_zero, List.append_nil]; exact HH.out, ⟨rfl, rfl, rfl, Nat.le_refl _, fun _ _ => rfl⟩, KeepBut.refl _ _ _⟩⟩
  case round =>
    obtain ⟨j, A', c', hj, rfl, hc', hA', H⟩ := hrel
    by_cases hlt : j < n
    · obtain ⟨hih, hbl, hkb⟩ := H.out
      have hAe := hA' hlt
      subst hAe
      obtain ⟨hBg, blk, hblk, hcell⟩ := hih
      obtain ⟨L, hL⟩ : ∃ L, bs ++ ys.take j = L := ⟨_, rfl⟩
      rw [hL] at hblk hcell
      have hll : L.length = bs.length + j := by rw [← hL]; simp [HN.out]; omega
      obtain ⟨at_, hat⟩ : ∃ x, L.length % 64 = x := ⟨_, rfl⟩
      have hat64 : at_ < 64 := by omega
      obtain ⟨m, hm⟩ : ∃ m, n - j = m := ⟨_, rfl⟩
      rw [hm] at hc' ⊢
      obtain ⟨k, hk⟩ : ∃ k, Nat.min m (64 - at_) = k := ⟨_, rfl⟩
      have hkm : k ≤ m := by rw [← hk]; exact Nat.min_le_left _ _
      have hk64 : k ≤ 64 - at_ := by rw [← hk]; exact Nat.min_le_right _ _
      have hk0 : 0 < k := by rw [← hk]; exact Nat.lt_min.2 ⟨by omega, by omega⟩
      obtain ⟨zs, hzs⟩ : ∃ zs, (ys.drop j).take k = zs := ⟨_, rfl⟩
      have hzl : zs.length = k := by rw [← hzs]; simp [HN.out]; omega
      have hzb : ∀ x ∈ zs, 0 ≤ x ∧ x < 256 := fun x hx => HY.out x (List.mem_of_mem_drop (List.mem_of_mem_take (by rw [hzs]; exact hx)))
      have hLz : L ++ zs = bs ++ ys.take (j + k) := by
        rw [← hL, ← hzs, List.append_assoc, ← List.take_add]
      have hsrc : ∀ i v, (nums .u8 zs)[i]? = some v → wr.cell? ((ad.add j).add i) = some v := by
        intro i v hv
        obtain ⟨hA1, hA2, hA3, hA4⟩ := HAD.out (by omega)
        have hi : i < k := by
          have := (List.getElem?_eq_some_iff.1 hv).1
          simpa [nums, hzl] using this
        have h1 := hA4 (j + i) (by omega)
        rw [add_add]
        have h2 : wr.cell? (ad.add (j + i)) = w.cell? (ad.add (j + i)) := World.cell?_of_block (hkb.2 _ (by rw [add_block]; exact hA3) (by rw [add_block]; exact hA2) (by simp))
        have h3 : j + i < ys.length := by rw [HN.out]; omega
        have h4 : rd ys ((j + i : Nat) : Int) = ys[j + i] := by
          unfold rd
          rw [Int.toNat_natCast]
          simp [h3]
        rw [h2, h1, h4, ← hv, ← hzs]
        simp [nums, hi, List.getElem?_take, List.getElem?_drop, h3]
      obtain ⟨st, hst⟩ : ∃ st, stOf L = st := ⟨_, rfl⟩
      have hwd : st.wd := by rw [← hst]; exact stOf_wd L
      rw [hst] at hcell
      obtain ⟨nL, hnL⟩ : ∃ x : Int, (L.length : Int) = x := ⟨_, rfl⟩
      rw [hnL] at hcell
      have hn0 : 0 ≤ nL := by omega
      have hn1 : nL ≤ 1000000 := by have := HL.out; omega
      have hrem : nL % 64 = (at_ : Int) := by omega
      have hrem2 : nL.tmod 64 = (at_ : Int) := by rw [Int.tmod_eq_emod_of_nonneg hn0]; exact hrem
      have hrem3 : IntKind.i64.wrap (at_ : Int) = (at_ : Int) := by rw [IntKind.wrap_i64]; omega
      have c72 := (blk_cell hcell 72).trans (hc_n hblk.1)
      have hspl := hc_splice (s := st) (n := nL) (o := at_) hblk.1 (zs := zs) (by omega)
      obtain ⟨CA, hCA⟩ : ∃ C, (hCells st blk nL).toArray = C := ⟨_, rfl⟩
      have hCAs : CA.size = 73 := by rw [← hCA]; simp [hc_len hblk.1]
      rw [hCA] at hcell hspl
      obtain ⟨NA, hNA⟩ : ∃ C, (hCells st (putB blk at_ zs) nL).toArray = C := ⟨_, rfl⟩
      have hb2 : (putB blk at_ zs).length = 64 := putB_len hblk.1 (by omega)
      have hset : (wr.setRow g NA).heap[g]? = some (.cells NA 92 (0, 0)) := setRow_heap _ _ _ _ _ _ hcell
      have d72 := (blk_cell hset 72).trans (show NA[72]? = some (.int .i64 nL) by rw [← hNA]; exact hc_n hb2)
      have f72 := blk_frozen hset 72
      have hset2 := blk_set hset 72 (.int .i64 (nL + (k : Int)))
      rw [← hNA, hc_setn hb2, hNA] at hset2
      have hother : ∀ i, i ≠ g → ((wr.setRow g NA).setCell ⟨g, 72, none⟩ (.int .i64 (nL + (k : Int)))).heap[i]? = wr.heap[i]? := fun i hi => (Below.heap_setCell _ ⟨g, 72, none⟩ _ i hi).trans (setRow_other _ _ _ _ hi)
      have hbw : Below B w ((wr.setRow g NA).setCell ⟨g, 72, none⟩ (.int .i64 (nL + (k : Int)))) := (below_setRow hbl hBg _).setCell (p := ⟨g, 72, none⟩) hBg _
      have hsz : ((wr.setRow g NA).setCell ⟨g, 72, none⟩ (.int .i64 (nL + (k : Int)))).heap.size = wr.heap.size := by rw [World.size_setCell]; simp [World.setRow]
      have hs := fun W => slice_h W g at_ hat64
      have hs2 := fun W => slice_t W (some (ad.add j)) m c' k hkm
      obtain ⟨A2, hA2⟩ : ∃ A2, (if c' = k then some (ad.add j) else (some (ad.add j)).map (·.add k)) = A2 := ⟨_, rfl⟩
      rw [hA2] at hs2
      have hA3 : j + k < n → A2 = some (ad.add (j + k)) := fun h => by
        rw [← hA2, if_neg (by omega)]
        show some ((ad.add j).add k) = _
        rw [add_add]
      have HCELL := Lib.hid hcell
      have HSRC := Lib.hid hsrc
      have HFIT := Lib.hid (show 8 + at_ + (nums .u8 zs).length ≤ CA.size by simp only [nums, List.length_map]; omega)
      have HCN := Lib.hid (show (nums .u8 zs).length = Nat.min m (64 - at_) by simp only [nums, List.length_map]; rw [hk]; exact hzl)
      have HSPL := Lib.hid (show (CA.toList.take (8 + at_) ++ (nums .u8 zs ++ CA.toList.drop (8 + at_ + (nums .u8 zs).length))).toArray = NA by rw [hspl, hNA])
      have HZL := Lib.hid (show (nums .u8 zs).length = k by simp only [nums, List.length_map]; exact hzl)
      have HOTH := Lib.hid (And.intro hother (And.intro hbw hsz))
      have HSET := Lib.hid hset2
      have HKB2 := Lib.hid hkb
      have HBLK := Lib.hid hblk
      have HLZ := Lib.hid (And.intro hLz (And.intro hzl (And.intro hzb (And.intro hb2 (And.intro hat (And.intro hnL (And.intro hst (And.intro hNA hwd))))))))
      have HA3 := Lib.hid hA3
      have HAK := Lib.hid (show at_ + k ≤ 64 by omega)
      have HJ := Lib.hid (show j + k ≤ n ∧ n - (j + k) = m - k ∧ m - k ≤ c' - k ∧ m - k < m by omega)
      have m0 : decide (m = 0) = false := decide_eq_false (by omega)
      have m1 : (0 : Int) < (m : Int) := by omega
      have k1 : (0 : Int) ≤ (k : Int) := by omega
      have k2 : (k : Int) ≤ 64 := by omega
      have a1 : (at_ : Int) < 64 := by omega
      by_cases hfull : at_ + k = 64
      · have hye : ((at_ : Int) + (k : Int) == 64) = true := by rw [beq_iff_eq]; omega
        have hyi : (at_ : Int) + (k : Int) = 64 := by omega
        have HFU := Lib.hid hfull
        clear hbl hkb hblk hcell hL hll hat hm hk hkm hk64 hk0 hzs hzl hzb hLz hsrc hst hwd hnL hspl hCA hCAs hNA hb2 hset hset2 hother hbw hsz hA2 hA3 H hA' hBg
        go_wp2_with ((with_reducible refine gate_builtin (b := .copy) (xs := #[.tmp 18, .tmp 19]) rfl ?_); (go_loud (refine wpList_copy_own rfl (.tmp 18) (.tmp 19) 28 28 rfl 5 HU.out HS1.out g (8 + at_) (64 - at_) (64 - at_) (ad.add j) m c' rfl rfl CA 92 HCELL.out (nums .u8 zs) HCN.out HSRC.out HFIT.out (nums_one _ _) ?_)); rw [HSPL.out, HZL.out])
        obtain ⟨W4, hW4⟩ : ∃ W, ((wr.setRow g NA).setCell ⟨g, 72, none⟩ (.int .i64 (nL + (k : Int)))) = W := ⟨_, rfl⟩
        rw [hW4] at HSET HOTH ⊢
        obtain ⟨pb, hpb⟩ : ∃ pb, putB blk at_ zs = pb := ⟨_, rfl⟩
        have hz := HLZ.out
        have hp := blk_full HBLK.out hz.2.2.1 (by rw [hz.2.2.2.2.1, hz.2.1]; exact HFU.out)
        rw [hz.2.2.2.2.1, hz.1, hz.2.2.2.2.2.2.1, hpb] at hp
        have hlen : ((bs ++ ys.take (j + k)).length : Int) = nL + (k : Int) := by rw [← hz.1, List.length_append, hz.2.1, ← hz.2.2.2.2.2.1]; simp
        have hset := HSET.out
        rw [hpb] at hset
        have hsetd : W4.drew.heap[g]? = some (.cells (hCells st pb (nL + (k : Int))).toArray 92 (0, 0)) := hset
        have hwd : st.wd := hz.2.2.2.2.2.2.2.2
        have hpl : pb.length = 64 := hp.1.1
        have hr1 : W4.drew.rangeAt g 0 (words st) := fun i v hv => by
          rw [blk_cell hsetd, Nat.zero_add]
          unfold hCells
          rw [List.getElem?_toArray, List.getElem?_append_left (List.getElem?_eq_some_iff.1 hv).1]
          exact hv
        have hr2 : W4.drew.rangeAt g 8 (nums .u8 pb) := fun i v hv => by
          rw [blk_cell hsetd]
          unfold hCells
          rw [List.getElem?_toArray, List.getElem?_append_right (by simp [words]), show 8 + i - (words st).length = i by simp [words], List.getElem?_append_left (List.getElem?_eq_some_iff.1 hv).1]
          exact hv
        have HR1 := Lib.hid (And.intro hr1 (And.intro Tryd.underlying80 (show (Tryd.prog.info? 80).map (·.size) = some (words st).length by rw [s8_size st]; rfl)))
        have HR2 := Lib.hid (And.intro hr2 (And.intro Tryd.underlying90 (show (Tryd.prog.info? 90).map (·.size) = some (nums .u8 pb).length by rw [info_b64]; simp [nums, hpl])))
        have hbc := block_calls st pb W4.drew (KT.of_block HK.out (HOTH.out.2.1.block _ HKB.out)) hwd hpl hp.1.2.1
        obtain ⟨RA, hRA⟩ : ∃ R, s8 (stepS st pb) = R := ⟨_, rfl⟩
        have hst5 : ∀ w5, Below W4.drew.heap.size W4.drew w5 → w5.there g 0 RA.size := fun w5 hb5 i hi => by
          have hg5 := (hb5.block g (blk_lt hsetd)).trans hsetd
          have hi8 : i < 8 := by rw [← hRA] at hi; exact hi
          have h73 : (hCells st pb (nL + (k : Int))).toArray.size = 73 := by simp [hc_len hpl]
          have hi9 : 0 + i < (hCells st pb (nL + (k : Int))).toArray.size := by rw [h73]; omega
          refine ⟨?_, blk_frozen hg5 _⟩
          rw [blk_cell hg5, Array.getElem?_eq_getElem hi9]
          rfl
        have HRS := Lib.hid (show (Tryd.prog.info? 80).map (·.size) = some RA.size ∧ RA.all (·.oneCell') = true by rw [← hRA]; exact ⟨s8_size _, s8_one _⟩)
        have hfin : ∀ w5, Below W4.drew.heap.size W4.drew w5 → IsH (w5.setCells g 0 RA.toList) B g (bs ++ ys.take (j + k)) ∧ Below B w (w5.setCells g 0 RA.toList) ∧ KeepBut w (w5.setCells g 0 RA.toList) g none := fun w5 hb5 => by
          have hg5 := (hb5.block g (blk_lt hsetd)).trans hsetd
          have h9 := heap_setCells_at g 92 RA.toList 0 w5 [] (words st) (nums .u8 pb ++ [.int .i64 (nL + (k : Int))]) (by simpa [hCells] using hg5) rfl (by rw [← hRA]; rfl)
          have hsz := HOTH.out.2.2
          have hBs : B ≤ W4.drew.heap.size := by
            show B ≤ W4.heap.size
            rw [hsz]
            exact Nat.le_trans HBS.out HKB2.out.1
          refine ⟨⟨HBG.out, pb, hp.1, ?_⟩, below_setCells' HBG.out _ _ _ ((below_drew HOTH.out.2.1).trans (Below.mono hb5 hBs)), ?_, fun i hi hg hr => ?_⟩
          · rw [hp.2, hlen, h9, ← hRA]
            rfl
          · rw [size_setCells']
            have h1 := hb5.size
            have h2 := HKB2.out.1
            have h3 : W4.drew.heap.size = wr.heap.size := hsz
            omega
          · rw [heap_setCells_ne _ _ _ _ _ hg, hb5.block i (by show i < W4.heap.size; rw [hsz]; exact Nat.lt_of_lt_of_le hi HKB2.out.1)]
            show W4.heap[i]? = _
            rw [HOTH.out.1 i hg]
            exact HKB2.out.2 i hi hg hr
        have HFIN := Lib.hid hfin
        have HST5 := Lib.hid hst5
        have HBC := Lib.hid hbc
        rw [hRA, ← words_s8 st] at HBC
        clear hW4 hpb hz hp hlen hset hsetd hwd hpl hr1 hr2 hbc hRA hst5 hfin hs hs2 hrem hrem2 hrem3 c72 d72 f72 hye hyi
        refine wp_region_any (by kernel_rfl) ?_
        change wpAny _ _ _ _ _ _ _ (World.drew _)
        refine wpAny_take (i := 0) (oi := ({ dst := some 36, op := Go.Op.move (Go.Operand.tmp 0), type := 83, pos := "sha2.go:86", after := #[], guard := none } : Oper)) (v := .pointer (some ⟨g, 0, none⟩)) rfl (by kernel_rfl) (by kernel_rfl) (by kernel_rfl) (fun _ _ _ h => h) (Or.inl ⟨by rfl, fun w => by go_simp⟩) ?_
        simp only [Act.put, List.setIfInBounds_toArray, List.set_cons_zero, List.set_cons_succ]
        refine wpAny_take (i := 1) (oi := ({ dst := some 37, op := Go.Op.move (Go.Operand.tmp 0), type := 83, pos := "sha2.go:86", after := #[], guard := none } : Oper)) (v := .pointer (some ⟨g, 0, none⟩)) rfl (by kernel_rfl) (by kernel_rfl) (by kernel_rfl) (fun _ _ _ h => h) (Or.inl ⟨by rfl, fun w => by go_simp⟩) ?_
        simp only [Act.put, List.setIfInBounds_toArray, List.set_cons_zero, List.set_cons_succ]
        refine wpAny_take (i := 2) (oi := ({ dst := some 38, op := Go.Op.nilCheck (Go.Operand.tmp 37), type := 0, pos := "sha2.go:86", after := #[{ on := 1, ground := Go.Ground.data }], guard := none } : Oper)) (v := .pointer (some ⟨g, 0, none⟩)) rfl (by kernel_rfl) (by kernel_rfl) (by kernel_rfl) (fun _ _ _ h => h) (Or.inl ⟨by rfl, fun w => by go_simp⟩) ?_
        simp only [Act.put, List.setIfInBounds_toArray, List.set_cons_zero, List.set_cons_succ]
        refine wpAny_take (i := 3) (oi := ({ dst := some 39, op := Go.Op.fieldAddr 92 (Go.Operand.tmp 38) 0, type := 0, pos := "sha2.go:86", after := #[{ on := 2, ground := Go.Ground.data }], guard := none } : Oper)) (v := .pointer (some ⟨g, 0, none⟩)) rfl (by kernel_rfl) (by kernel_rfl) (by kernel_rfl) (fun _ _ _ h => h) (Or.inl ⟨by rfl, fun w => by go_simp⟩) ?_
        simp only [Act.put, List.setIfInBounds_toArray, List.set_cons_zero, List.set_cons_succ]
        refine wpAny_take (i := 5) (oi := ({ dst := some 41, op := Go.Op.move (Go.Operand.tmp 0), type := 83, pos := "sha2.go:86", after := #[], guard := none } : Oper)) (v := .pointer (some ⟨g, 0, none⟩)) rfl (by kernel_rfl) (by kernel_rfl) (by kernel_rfl) (fun _ _ _ h => h) (Or.inl ⟨by rfl, fun w => by go_simp⟩) ?_
        simp only [Act.put, List.setIfInBounds_toArray, List.set_cons_zero, List.set_cons_succ]
        refine wpAny_take (i := 6) (oi := ({ dst := some 42, op := Go.Op.nilCheck (Go.Operand.tmp 41), type := 0, pos := "sha2.go:86", after := #[{ on := 5, ground := Go.Ground.data }], guard := none } : Oper)) (v := .pointer (some ⟨g, 0, none⟩)) rfl (by kernel_rfl) (by kernel_rfl) (by kernel_rfl) (fun _ _ _ h => h) (Or.inl ⟨by rfl, fun w => by go_simp⟩) ?_
        simp only [Act.put, List.setIfInBounds_toArray, List.set_cons_zero, List.set_cons_succ]
        refine wpAny_take (i := 7) (oi := ({ dst := some 43, op := Go.Op.fieldAddr 92 (Go.Operand.tmp 42) 1, type := 0, pos := "sha2.go:86", after := #[{ on := 6, ground := Go.Ground.data }], guard := none } : Oper)) (v := .pointer (some ⟨g, 8, none⟩)) rfl (by kernel_rfl) (by kernel_rfl) (by kernel_rfl) (fun _ _ _ h => h) (Or.inl ⟨by rfl, fun w => by go_simp⟩) ?_
        simp only [Act.put, List.setIfInBounds_toArray, List.set_cons_zero, List.set_cons_succ]
        refine wpAny_ready (rs := [4, 8]) (by kernel_rfl) (by simp) ?_
        refine AllReady.cons (o := ({ dst := some 40, op := Go.Op.load 80 (Go.Operand.tmp 39), type := 80, pos := "sha2.go:86", after := #[{ on := 3, ground := Go.Ground.data }], guard := none } : Oper)) rfl (fun K hK => ?_) (AllReady.cons (o := ({ dst := some 44, op := Go.Op.load 90 (Go.Operand.tmp 43), type := 90, pos := "sha2.go:86", after := #[{ on := 7, ground := Go.Ground.data }], guard := none } : Oper)) rfl (fun K hK => ?_) AllReady.nil)
        · rw [if_pos (by rfl)]
          refine wp_load_mid 80 (.tmp 39) rfl g 0 rfl (words st) _ HR1.out.1 HR1.out.2.1 rfl HR1.out.2.2 ?_
          simp only [Act.put, List.setIfInBounds_toArray, List.set_cons_zero, List.set_cons_succ]
          refine hK _ _ ?_
          clear hK K
          refine wpAny_ready (rs := [8]) (by kernel_rfl) (by simp) ?_
          refine AllReady.cons (o := ({ dst := some 44, op := Go.Op.load 90 (Go.Operand.tmp 43), type := 90, pos := "sha2.go:86", after := #[{ on := 7, ground := Go.Ground.data }], guard := none } : Oper)) rfl (fun K hK => ?_) AllReady.nil
          rw [if_pos (by rfl)]
          refine wp_load_mid 90 (.tmp 43) rfl g 8 rfl (nums .u8 pb) _ HR2.out.1 HR2.out.2.1 rfl HR2.out.2.2 ?_
          simp only [Act.put, List.setIfInBounds_toArray, List.set_cons_zero, List.set_cons_succ]
          refine hK _ _ ?_
          clear hK K
          refine wpAny_ready (rs := [9]) (by kernel_rfl) (by simp) ?_
          refine AllReady.cons (o := ({ dst := some 45, op := Go.Op.call { callee := Go.Callee.value (Go.Operand.func 48), args := #[Go.Operand.tmp 40, Go.Operand.tmp 44], argTypes := #[80, 90] }, type := 80, pos := "sha2.go:86", after := #[{ on := 4, ground := Go.Ground.data }, { on := 8, ground := Go.Ground.data }], guard := none } : Oper)) rfl (fun K hK => ?_) AllReady.nil
          go_simp
          go_at_call 48
          (with_reducible refine HBC.out.mono ?_)
          rintro e w5 ⟨rfl, hb5⟩
          have HFI := Lib.hid (HFIN.out w5 hb5)
          have HTH := Lib.hid (HST5.out w5 hb5)
          clear hb5
          go_wp2_with fail
          refine wpAny_take (i := 10) (oi := ({ dst := some 46, op := Go.Op.nilCheck (Go.Operand.tmp 36), type := 0, pos := "sha2.go:86", after := #[{ on := 0, ground := Go.Ground.data }, { on := 0, ground := Go.Ground.phase }, { on := 1, ground := Go.Ground.phase }, { on := 2, ground := Go.Ground.phase }, { on := 3, ground := Go.Ground.phase }, { on := 4, ground := Go.Ground.phase }, { on := 5, ground := Go.Ground.phase }, { on := 6, ground := Go.Ground.phase }, { on := 7, ground := Go.Ground.phase }, { on := 8, ground := Go.Ground.phase }, { on := 9, ground := Go.Ground.phase }], guard := none } : Oper)) (v := .pointer (some ⟨g, 0, none⟩)) rfl (by kernel_rfl) (by kernel_rfl) (by kernel_rfl) (fun _ _ _ h => h) (Or.inl ⟨by rfl, fun w => by go_simp⟩) ?_
          simp only [Act.put, List.setIfInBounds_toArray, List.set_cons_zero, List.set_cons_succ]
          refine wpAny_take (i := 11) (oi := ({ dst := some 47, op := Go.Op.fieldAddr 92 (Go.Operand.tmp 46) 0, type := 0, pos := "sha2.go:86", after := #[{ on := 10, ground := Go.Ground.data }, { on := 0, ground := Go.Ground.phase }, { on := 1, ground := Go.Ground.phase }, { on := 2, ground := Go.Ground.phase }, { on := 3, ground := Go.Ground.phase }, { on := 4, ground := Go.Ground.phase }, { on := 5, ground := Go.Ground.phase }, { on := 6, ground := Go.Ground.phase }, { on := 7, ground := Go.Ground.phase }, { on := 8, ground := Go.Ground.phase }, { on := 9, ground := Go.Ground.phase }], guard := none } : Oper)) (v := .pointer (some ⟨g, 0, none⟩)) rfl (by kernel_rfl) (by kernel_rfl) (by kernel_rfl) (fun _ _ _ h => h) (Or.inl ⟨by rfl, fun w => by go_simp⟩) ?_
          simp only [Act.put, List.setIfInBounds_toArray, List.set_cons_zero, List.set_cons_succ]
          refine wpAny_ready (rs := [12]) (by kernel_rfl) (by simp) ?_
          refine AllReady.cons (o := ({ dst := none, op := Go.Op.store 80 (Go.Operand.tmp 47) (Go.Operand.tmp 45), type := 0, pos := "sha2.go:86", after := #[{ on := 11, ground := Go.Ground.data }, { on := 9, ground := Go.Ground.data }, { on := 9, ground := Go.Ground.chain }, { on := 0, ground := Go.Ground.phase }, { on := 1, ground := Go.Ground.phase }, { on := 2, ground := Go.Ground.phase }, { on := 3, ground := Go.Ground.phase }, { on := 4, ground := Go.Ground.phase }, { on := 5, ground := Go.Ground.phase }, { on := 6, ground := Go.Ground.phase }, { on := 7, ground := Go.Ground.phase }, { on := 8, ground := Go.Ground.phase }, { on := 9, ground := Go.Ground.phase }], guard := none } : Oper)) rfl (fun K hK => ?_) AllReady.nil
          rw [if_pos (by rfl)]
          refine wp_store_mid 80 (.tmp 47) (.tmp 45) rfl g 0 RA rfl rfl HTH.out HRS.out.1 HRS.out.2 ?_
          simp only [Act.put, List.setIfInBounds_toArray, List.set_cons_zero, List.set_cons_succ]
          refine hK _ _ ?_
          clear hK K
          refine wpAny_done (by kernel_rfl) ?_ _
          go_wp2
          exact ⟨⟨j + k, A2, c' - k, HJ.out.1, by rw [HJ.out.2.1], by rw [HJ.out.2.1]; exact HJ.out.2.2.1, HA3.out, Lib.hid HFI.out⟩, HJ.out.2.2.2⟩
        · rw [if_pos (by rfl)]
          refine wp_load_mid 90 (.tmp 43) rfl g 8 rfl (nums .u8 pb) _ HR2.out.1 HR2.out.2.1 rfl HR2.out.2.2 ?_
          simp only [Act.put, List.setIfInBounds_toArray, List.set_cons_zero, List.set_cons_succ]
          refine hK _ _ ?_
          clear hK K
          refine wpAny_ready (rs := [4]) (by kernel_rfl) (by simp) ?_
          refine AllReady.cons (o := ({ dst := some 40, op := Go.Op.load 80 (Go.Operand.tmp 39), type := 80, pos := "sha2.go:86", after := #[{ on := 3, ground := Go.Ground.data }], guard := none } : Oper)) rfl (fun K hK => ?_) AllReady.nil
          rw [if_pos (by rfl)]
          refine wp_load_mid 80 (.tmp 39) rfl g 0 rfl (words st) _ HR1.out.1 HR1.out.2.1 rfl HR1.out.2.2 ?_
          simp only [Act.put, List.setIfInBounds_toArray, List.set_cons_zero, List.set_cons_succ]
          refine hK _ _ ?_
          clear hK K
          refine wpAny_ready (rs := [9]) (by kernel_rfl) (by simp) ?_
          refine AllReady.cons (o := ({ dst := some 45, op := Go.Op.call { callee := Go.Callee.value (Go.Operand.func 48), args := #[Go.Operand.tmp 40, Go.Operand.tmp 44], argTypes := #[80, 90] }, type := 80, pos := "sha2.go:86", after := #[{ on := 4, ground := Go.Ground.data }, { on := 8, ground := Go.Ground.data }], guard := none } : Oper)) rfl (fun K hK => ?_) AllReady.nil
          go_simp
          go_at_call 48
          (with_reducible refine HBC.out.mono ?_)
          rintro e w5 ⟨rfl, hb5⟩
          have HFI := Lib.hid (HFIN.out w5 hb5)
          have HTH := Lib.hid (HST5.out w5 hb5)
          clear hb5
          go_wp2_with fail
          refine wpAny_take (i := 10) (oi := ({ dst := some 46, op := Go.Op.nilCheck (Go.Operand.tmp 36), type := 0, pos := "sha2.go:86", after := #[{ on := 0, ground := Go.Ground.data }, { on := 0, ground := Go.Ground.phase }, { on := 1, ground := Go.Ground.phase }, { on := 2, ground := Go.Ground.phase }, { on := 3, ground := Go.Ground.phase }, { on := 4, ground := Go.Ground.phase }, { on := 5, ground := Go.Ground.phase }, { on := 6, ground := Go.Ground.phase }, { on := 7, ground := Go.Ground.phase }, { on := 8, ground := Go.Ground.phase }, { on := 9, ground := Go.Ground.phase }], guard := none } : Oper)) (v := .pointer (some ⟨g, 0, none⟩)) rfl (by kernel_rfl) (by kernel_rfl) (by kernel_rfl) (fun _ _ _ h => h) (Or.inl ⟨by rfl, fun w => by go_simp⟩) ?_
          simp only [Act.put, List.setIfInBounds_toArray, List.set_cons_zero, List.set_cons_succ]
          refine wpAny_take (i := 11) (oi := ({ dst := some 47, op := Go.Op.fieldAddr 92 (Go.Operand.tmp 46) 0, type := 0, pos := "sha2.go:86", after := #[{ on := 10, ground := Go.Ground.data }, { on := 0, ground := Go.Ground.phase }, { on := 1, ground := Go.Ground.phase }, { on := 2, ground := Go.Ground.phase }, { on := 3, ground := Go.Ground.phase }, { on := 4, ground := Go.Ground.phase }, { on := 5, ground := Go.Ground.phase }, { on := 6, ground := Go.Ground.phase }, { on := 7, ground := Go.Ground.phase }, { on := 8, ground := Go.Ground.phase }, { on := 9, ground := Go.Ground.phase }], guard := none } : Oper)) (v := .pointer (some ⟨g, 0, none⟩)) rfl (by kernel_rfl) (by kernel_rfl) (by kernel_rfl) (fun _ _ _ h => h) (Or.inl ⟨by rfl, fun w => by go_simp⟩) ?_
          simp only [Act.put, List.setIfInBounds_toArray, List.set_cons_zero, List.set_cons_succ]
          refine wpAny_ready (rs := [12]) (by kernel_rfl) (by simp) ?_
          refine AllReady.cons (o := ({ dst := none, op := Go.Op.store 80 (Go.Operand.tmp 47) (Go.Operand.tmp 45), type := 0, pos := "sha2.go:86", after := #[{ on := 11, ground := Go.Ground.data }, { on := 9, ground := Go.Ground.data }, { on := 9, ground := Go.Ground.chain }, { on := 0, ground := Go.Ground.phase }, { on := 1, ground := Go.Ground.phase }, { on := 2, ground := Go.Ground.phase }, { on := 3, ground := Go.Ground.phase }, { on := 4, ground := Go.Ground.phase }, { on := 5, ground := Go.Ground.phase }, { on := 6, ground := Go.Ground.phase }, { on := 7, ground := Go.Ground.phase }, { on := 8, ground := Go.Ground.phase }, { on := 9, ground := Go.Ground.phase }], guard := none } : Oper)) rfl (fun K hK => ?_) AllReady.nil
          rw [if_pos (by rfl)]
          refine wp_store_mid 80 (.tmp 47) (.tmp 45) rfl g 0 RA rfl rfl HTH.out HRS.out.1 HRS.out.2 ?_
          simp only [Act.put, List.setIfInBounds_toArray, List.set_cons_zero, List.set_cons_succ]
          refine hK _ _ ?_
          clear hK K
          refine wpAny_done (by kernel_rfl) ?_ _
          go_wp2
          exact ⟨⟨j + k, A2, c' - k, HJ.out.1, by rw [HJ.out.2.1], by rw [HJ.out.2.1]; exact HJ.out.2.2.1, HA3.out, Lib.hid HFI.out⟩, HJ.out.2.2.2⟩
      · have hne : ((at_ : Int) + (k : Int) == 64) = false := by rw [beq_eq_false_iff_ne]; omega
        clear hbl hkb hblk hcell hL hll hat hm hk hkm hk64 hk0 hzs hzl hzb hLz hsrc hst hwd hnL hspl hCA hCAs hNA hb2 hset hset2 hother hbw hsz hA2 hA3 H hA' hBg
        go_wp2_with ((with_reducible refine gate_builtin (b := .copy) (xs := #[.tmp 18, .tmp 19]) rfl ?_); (go_loud (refine wpList_copy_own rfl (.tmp 18) (.tmp 19) 28 28 rfl 5 HU.out HS1.out g (8 + at_) (64 - at_) (64 - at_) (ad.add j) m c' rfl rfl CA 92 HCELL.out (nums .u8 zs) HCN.out HSRC.out HFIT.out (nums_one _ _) ?_)); rw [HSPL.out, HZL.out])
        have hz := HLZ.out
        have hp := blk_part HBLK.out hz.2.2.1 (by rw [hz.2.2.2.2.1, hz.2.1]; have := HAK.out; omega)
        rw [hz.2.2.2.2.1, hz.1, hz.2.2.2.2.2.2.1] at hp
        have hlen : ((bs ++ ys.take (j + k)).length : Int) = nL + (k : Int) := by rw [← hz.1, List.length_append, hz.2.1, ← hz.2.2.2.2.2.1]; simp
        refine ⟨⟨j + k, A2, c' - k, HJ.out.1, by rw [HJ.out.2.1], by rw [HJ.out.2.1]; exact HJ.out.2.2.1, HA3.out, Lib.hid ⟨⟨HBG.out, _, hp.1, ?_⟩, HOTH.out.2.1, ?_⟩⟩, HJ.out.2.2.2⟩
        · rw [hp.2, hlen]
          exact HSET.out
        · refine ⟨by rw [HOTH.out.2.2]; exact HKB2.out.1, fun i hi hg hr => ?_⟩
          rw [HOTH.out.1 i hg]
          exact HKB2.out.2 i hi hg hr
    · obtain rfl : j = n := by omega
      rw [Nat.sub_self]
      go_wp2_with fail
      have hf := H.out
      rw [← HN.out, List.take_length] at hf
      go_end0
      exact ⟨rfl, hf.1, hf.2.1, hf.2.2⟩
end Go.Proofs.YtpjkhecefppamaaDoor.Hand

/- The hasher's sum. -/
namespace Go.Proofs.YtpjkhecefppamaaDoor.Hand
open Go Go.RowKit Go.Proofs.YtpjkhecefppamaaDoor.Plain Go.Proofs.YtpjkhecefppamaaDoor.PAll Go.Proofs.YtpjkhecefppamaaDoorW.PrintWords Go.Proofs.YtpjkhecefppamaaDoorW.PrintLast Go.Proofs.YtpjkhecefppamaaDoorW.PrintMore
set_option linter.unusedVariables false
set_option linter.unusedSimpArgs false
set_option maxRecDepth 100000
theorem rd_nat (xs : List Int) (i : Nat) : rd xs (i : Int) = xs.getD i 0 := by simp [rd]
theorem reverse_loop (d : Nat) : ∀ (k : Nat) (a m b : List Int), m.length = d → d < k → a.length + d + b.length < 1000000 →
    slices_Reverse_byte_byte.l0 k (a ++ m ++ b) (a.length : Int) ((a.length : Int) + d - 1) = some (a ++ m.reverse ++ b) := by
  induction d using Nat.strongRecOn with
  | _ d ih =>
    intro k a m b hm hk hb
    obtain ⟨k, rfl⟩ : ∃ j, k = j + 1 := ⟨k - 1, by omega⟩
    simp only [slices_Reverse_byte_byte.l0]
    by_cases h : d ≤ 1
    · rw [if_neg (by omega)]
      match m, hm with
      | [], _ => rfl
      | [x], _ => rfl
      | x :: y :: m, hm => simp at hm; omega
    · obtain ⟨x, m1, rfl⟩ : ∃ x m1, m = x :: m1 := by
        cases m with
        | nil => simp at hm; omega
        | cons x m1 => exact ⟨x, m1, rfl⟩
      obtain ⟨m2, y, rfl⟩ : ∃ m2 y, m1 = m2 ++ [y] := by
        have : m1 ≠ [] := by intro e; subst e; simp at hm; omega
        exact ⟨m1.dropLast, m1.getLast this, (List.dropLast_concat_getLast this).symm⟩
      have hl : m2.length + 2 = d := by simp at hm; omega
      have hlen : (a ++ (x :: (m2 ++ [y])) ++ b).length = a.length + d + b.length := by simp; omega
      have ej : ((a.length : Int) + d - 1) = ((a.length + (m2.length + 1) : Nat) : Int) := by omega
      rw [ej]
      rw [if_pos (by omega), if_pos (by omega), if_pos (by omega), if_pos (by omega), if_pos (by omega)]
      rw [rd_nat, rd_nat]
      have r1 : (a ++ (x :: (m2 ++ [y])) ++ b).getD (a.length + (m2.length + 1)) 0 = y := by
        simp [List.getD_eq_getElem?_getD, List.append_assoc]
      have r2 : (a ++ (x :: (m2 ++ [y])) ++ b).getD a.length 0 = x := by
        simp [List.getD_eq_getElem?_getD, List.append_assoc]
      rw [r1, r2]
      have s1 : ((a ++ (x :: (m2 ++ [y])) ++ b).set ((a.length : Int)).toNat y).set (((a.length + (m2.length + 1) : Nat) : Int)).toNat x = (a ++ [y]) ++ m2 ++ (x :: b) := by
        rw [Int.toNat_natCast, Int.toNat_natCast]
        simp [List.append_assoc, List.set_append, Nat.add_sub_cancel_left]
      rw [s1]
      have e1 : wrap64 ((a.length : Int) + 1) = ((a ++ [y]).length : Int) := by rw [wrap64_id (by omega) (by omega)]; simp
      have e2 : wrap64 (((a.length + (m2.length + 1) : Nat) : Int) - 1) = ((a ++ [y]).length : Int) + (m2.length : Nat) - 1 := by
        rw [wrap64_id (by omega) (by omega)]; simp; omega
      rw [e1, e2, ih m2.length (by omega) k (a ++ [y]) m2 (x :: b) rfl (by omega) (by simp; omega)]
      simp [List.append_assoc]
theorem reverse_tells (xs : List Int) (k : Nat) (hk : xs.length < k) (hl : xs.length < 1000000) : slices_Reverse_byte_byte.f k xs = some xs.reverse := by
  unfold slices_Reverse_byte_byte.f
  have := reverse_loop xs.length k [] xs [] rfl hk (by simpa using hl)
  rw [wrap64_id (by omega) (by omega)]
  simpa using this
theorem great_tells (n : Nat) (w : Int) (k : Nat) (hk : 10 ≤ k) : octet_Great.f k (n : Int) w = some (digs (wid w) n).reverse := by
  have hw := wid_le w
  unfold octet_Great.f
  rw [little_tells n w k hk]
  simp only [Option.bind_some]
  rw [reverse_tells _ k (by rw [digs_length]; omega) (by rw [digs_length]; omega)]
  rfl
theorem great_calls (n : Nat) (d : Int) (k : Nat) (w : World) (hd : wid d = k) :
    Calls Tryd.prog 49 #[.int .u64 (n : Int), .int .i64 d] w fun e w' => ∃ v, e = .returned v ∧ Kd.R (Kd.int .u8) 5 w' w.heap.size (fun _ => True) v (great k n) ∧ Below w.heap.size w w' := by
  subst hd
  exact octet_Great.calls 20 n d _ w (great_tells n d 20 (by omega))
/-- A row of the call's own as a source. -/
theorem SrcRow.ofR {w : World} {g base : Nat} {ok : Nat → Prop} {A : Option Addr} {n c : Nat} {ys : List Int} (h : Kd.R (Kd.int .u8) 5 w base ok (.slice A n c) ys) (hg : g < base) : SrcRow w g A ys := by
  obtain ⟨hn, hc, hC⟩ := Kd.R_reads' h
  refine SrcRow.of hC fun ad hA => ?_
  have := Kd.R_base h ad.block (by rw [hA]; rfl)
  omega
theorem infoHash : (Tryd.prog.info? 42).map (fun i => (i.zero, i.size)) = some (some (.agg (nums .u8 (List.replicate 32 0)).toArray), 32) := by kernel_rfl
theorem arr32 : Tryd.prog.underlying 42 = some (.array (Tryd.prog.arrayLen 42) (Tryd.prog.elem 42)) ∧ Tryd.prog.arrayLen 42 = 32 := ⟨by kernel_rfl, by kernel_rfl⟩
theorem slice_o (W : World) (g o : Nat) (ho : o < 32) : (Instr.sliceAt 42 (.pointer (some ⟨g, 0, none⟩)) (some (.int .i64 (o : Int))) none none).run Tryd.prog W = .ok (.slice (some ⟨g, o, none⟩) (32 - o) (32 - o)) W := by
  rw [run_sliceAt_array_l W 42 ⟨g, 0, none⟩ arr32.1 .i64 o (by omega) (by rw [arr32.2]; omega)]
  have z : (sizeOf (Tryd.prog.elem 42)).run Tryd.prog W = .ok 1 W := by rfl
  rw [z, arr32.2]
  simp only [slicedAt, Result.andThen, Int.toNat_natCast, Nat.mul_one, Addr.add_mid, Nat.zero_add]
  rw [if_neg (by omega)]
theorem index8 (s : St) (j : Nat) (hj : j < 8) (w : World) : (Instr.index 80 (.agg (s8 s)) (.int .i64 (j : Int))).run Tryd.prog w = .ok (.int .u32 (s.at8 j)) w := by
  have z3 : (sizeOf 79).run Tryd.prog w = .ok 1 w := by rfl
  have a3 : (isAgg 79).run Tryd.prog w = .ok false w := by simp [isAgg, run_underlying Tryd.underlying79]
  have ha : (arrF s.at8)[j]? = some (.int .u32 (s.at8 j)) := arrF_get _ hj
  rw [s8_arr]
  unfold Instr.index
  simp [run_underlying Tryd.underlying80, hj, asIntOf, part, ha, z3, a3]
def greats (s : St) : Nat → List Int
  | 0 => []
  | n + 1 => greats s n ++ great 4 (s.at8 n).toNat
theorem greats_len (s : St) : ∀ n, (greats s n).length = 4 * n
  | 0 => rfl
  | n + 1 => by
    unfold greats
    rw [List.length_append, greats_len s n, great_len]
    omega
theorem greats_8 (s : St) : greats s 8 = outB s := by
  simp [greats, outB, St.at8]
def outRow (s : St) (n : Nat) : List Int := greats s n ++ List.replicate (32 - 4 * n) 0
theorem outRow_len (s : St) (n : Nat) (h : n ≤ 8) : (outRow s n).length = 32 := by
  simp [outRow, greats_len]
  omega
theorem outRow_splice (s : St) (n : Nat) (h : n < 8) : splice (nums .u8 (outRow s n)) (4 * n) (nums .u8 (great 4 (s.at8 n).toNat)) = nums .u8 (outRow s (n + 1)) := by
  have h1 : (greats s n).length = 4 * n := greats_len s n
  have h2 : (great 4 (s.at8 n).toNat).length = 4 := great_len _ _
  unfold splice outRow nums
  rw [List.length_map, h2, ← List.map_take, ← List.map_drop, List.take_append_of_le_length (by omega), List.take_of_length_le (by omega), List.drop_append, List.drop_of_length_le (l := greats s n) (by omega), h1]
  simp only [greats, List.map_append, List.append_assoc, List.map_replicate, List.drop_replicate, List.nil_append, List.map_nil]
  congr 3
  omega
attribute [local go_sem ↓] Go.wp_at_zero Go.wp_at_succ
set_option maxHeartbeats 1000000 in
set_option maxRecDepth 100000 in
theorem hsum_calls {w : World} {B g : Nat} {bs : List Int} (h : IsH w B g bs) (hl : bs.length ≤ 900000) (hb : ∀ x ∈ bs, 0 ≤ x ∧ x < 256) (hK : KT w) :
    Calls Tryd.prog 44 #[.pointer (some ⟨g, 0, none⟩)] w fun e w' => e = .returned (.agg (nums .u8 (sumP bs)).toArray) ∧ Below w.heap.size w w' := by
  have hgl := h.lt
  obtain ⟨_, blk, hblk, hcell⟩ := h
  have c72 := (blk_cell hcell 72).trans (hc_n hblk.1)
  obtain ⟨nb, hnb⟩ : ∃ nb, bs.length = nb := ⟨_, rfl⟩
  rw [hnb] at c72 hl
  obtain ⟨CA, hCA⟩ : ∃ C, (hCells (stOf bs) blk (bs.length : Int)).toArray = C := ⟨_, rfl⟩
  have hcs : CA.size = 73 := by rw [← hCA]; simp [hc_len hblk.1]
  have hco : CA.all (·.oneCell') = true := by
    rw [← hCA]
    refine all_oneCell_toArray fun v hv => ?_
    simp only [hCells, List.mem_append, List.mem_singleton] at hv
    rcases hv with hv | hv | rfl
    · exact words_one _ v hv
    · exact nums_one _ _ v hv
    · rfl
  rw [hCA] at hcell
  have hz53 := (zero_of_info info_h).1
  obtain ⟨Zh, hZh⟩ : ∃ C, (hCells ⟨0, 0, 0, 0, 0, 0, 0, 0⟩ z64 0).toArray = C := ⟨_, rfl⟩
  rw [hZh] at hz53
  have HS := Lib.hid (show (Tryd.prog.info? 92).map (·.size) = some CA.size ∧ Zh.size = CA.size ∧ CA.all (·.oneCell') = true from ⟨by rw [hcs]; exact (zero_of_info info_h).2, by rw [hcs, ← hZh]; simp [hc_len, z64], hco⟩)
  have hz31 := (zero_of_info infoHash).1
  obtain ⟨Z0, hZ0⟩ : ∃ C, (nums .u8 (List.replicate 32 0)).toArray = C := ⟨_, rfl⟩
  rw [hZ0] at hz31
  have HZ0 := Lib.hid hZ0
  have HCELL := Lib.hid hcell
  have HBLK := Lib.hid hblk
  have HCA := Lib.hid hCA
  have HNB := Lib.hid hnb
  have HL := Lib.hid hl
  have HBY := Lib.hid hb
  have HK := Lib.hid hK
  have HG := Lib.hid hgl
  have HCW := Lib.hid (blk_alloc hcell (.cells Z0 42))
  have HU53 := Lib.hid Tryd.underlying92
  obtain ⟨pz, hpz⟩ : ∃ pz, padZ nb = pz := ⟨_, rfl⟩
  have e1 : (119 - (nb : Int) % 64) % 64 = (pz : Int) := by rw [← hpz]; unfold padZ; omega
  have e2 : pz < 64 := by rw [← hpz]; unfold padZ; omega
  have HPZ := Lib.hid hpz
  have hnl : (nb : Int) ≤ 900000 := by omega
  have c72' : ((w.alloc (.cells Z0 42)).alloc (.cells CA 92)).cell? ⟨g, 72, none⟩ = some (.int .i64 (nb : Int)) := by
    have h1 := (below_alloc (below_alloc (Below.refl w.heap.size w) (.cells Z0 42)) (.cells CA 92)).cell (p := ⟨g, 72, none⟩) hgl
    rw [h1]
    exact c72
  obtain ⟨np, hnp⟩ : ∃ np, pz + 1 = np := ⟨_, rfl⟩
  have e3 : 1 + (pz : Int) = (np : Int) := by omega
  have HNP := Lib.hid (show pz + 1 = np ∧ np ≤ 64 by omega)
  have e4 : (nb : Int).tmod 64 = (nb : Int) % 64 := Int.tmod_eq_emod_of_nonneg (by omega)
  have HC72 := Lib.hid c72
  clear hcell hblk hCA hnb hl hb hK hgl hcs hco hZh hZ0 hpz c72 hnp
  have H2 := Lib.hid (show ((w.alloc (.cells Z0 42)).alloc (.cells CA 92)).heap[w.heap.size + 1]? = some (.cells CA 92 (0, 0)) by
    have := heap_alloc_new (w.alloc (.cells Z0 42)) (.cells CA 92)
    rw [World.size_alloc] at this
    exact this)
  have H1 := Lib.hid (blk_alloc (heap_alloc_new w (.cells Z0 42)) (.cells CA 92))
  have HB2 := Lib.hid (below_alloc (below_alloc (Below.refl w.heap.size w) (.cells Z0 42)) (.cells CA 92))
  have HSZ := Lib.hid (show ((w.alloc (.cells Z0 42)).alloc (.cells CA 92)).heap.size = w.heap.size + 2 by rw [World.size_alloc, World.size_alloc])
  have HMK := Lib.hid (And.intro (show (0 : Int) ≤ (np : Int) by omega) (And.intro (show (np : Int).toNat * 1 ≤ 281474976710656 by have := HNP.out; omega) (Below.refl ((w.alloc (.cells Z0 42)).alloc (.cells CA 92)).heap.size ((w.alloc (.cells Z0 42)).alloc (.cells CA 92)))))
  have HU27 := Lib.hid Tryd.underlying28
  go_enter Tryd.func44, Tryd.ntmps44
  go_wp2_with (first | ((with_reducible show wpList _ _ _ (Oper.mk _ (Op.load 92 _) _ _ _ _ :: _) _ _); (go_loud (refine wpList_load_row rfl 92 (.tmp 9) rfl g rfl 92 CA (0, 0) _ HCW.out HU53.out rfl HS.out.1 ?_))) | ((with_reducible show wpList _ _ _ (Oper.mk _ (Op.store 92 _ _) _ _ _ _ :: _) _ _); (go_loud (refine wpl_store_new rfl 92 (.tmp 3) (.tmp 10) rfl Zh CA (by rw [World.size_alloc]; rfl) rfl HS.out.1 HS.out.2.1 HS.out.2.2 ?_))) | (at_make; (go_loud (refine Kd.R_make (Kd.int .u8) (w0 := (w.alloc (.cells Z0 42)).alloc (.cells CA 92)) ((w.alloc (.cells Z0 42)).alloc (.cells CA 92)).heap.size 5 rfl rfl 28 (.tmp 18) (.tmp 18) rfl (np : Int) rfl rfl HU27.out (.int .u8 0) 1 info5 rfl (by decide) (by decide) (0 : Int) (ok := fun _ => True) (okp := fun _ => False) rfl (fun _ h => h.elim) trivial HMK.out.1 HMK.out.2.1 HMK.out.2.2 (Nat.le_refl _) ?_)); intro v1 w3 hR hb hg hat; obtain ⟨bE, cE, hv, hbE, hbE2, -⟩ := Kd.R_form hR (by rw [List.length_replicate]; have := HNP.out; omega); subst hv; rw [List.length_replicate, Int.toNat_natCast] at hR ⊢; obtain ⟨zc, zf⟩ : w3.cell? ⟨bE, 0, none⟩ = some (.int .u8 0) ∧ w3.frozen? ⟨bE, 0, none⟩ = false := (by have h := Kd.R_celln (0 : Int) hR 0 (by decide) (by have := HNP.out; omega); have h2 : rdOf (0 : Int) (List.replicate np 0) 0 = 0 := (by have := HNP.out; unfold rdOf; rw [List.getD_eq_getElem?_getD, List.getElem?_replicate]; split <;> rfl); rw [h2] at h; exact h); have HR := Lib.hid hR; have HB3 := Lib.hid hb; have HBE := Lib.hid (And.intro hbE hbE2); clear hR hb hg hat hbE hbE2))
  obtain ⟨W2, hW2⟩ : ∃ W, ((w.alloc (.cells Z0 42)).alloc (.cells CA 92)) = W := ⟨_, rfl⟩
  rw [hW2] at H1 H2 HB2 HSZ HB3 HBE HR
  obtain ⟨b0, hb0⟩ : ∃ b, w.heap.size = b := ⟨_, rfl⟩
  rw [hb0] at H1 H2 HB2 HSZ ⊢
  clear zc zf c72'
  obtain ⟨b3, hb3⟩ : ∃ b, b0 + 1 = b := ⟨_, rfl⟩
  rw [hb3] at H2 ⊢
  have HBB := Lib.hid (show w.heap.size = b0 ∧ b3 = b0 + 1 ∧ W2.heap.size = b0 + 2 by have := HSZ.out; omega)
  rw [hW2] at HMK
  clear hW2 hb0 hb3 HSZ
  obtain ⟨eL, heL⟩ : ∃ eL, (128 : Int) :: List.replicate pz 0 = eL := ⟨_, rfl⟩
  have heLl : eL.length = np := by rw [← heL]; have := HNP.out; simp; omega
  have heLb : ∀ x ∈ eL, 0 ≤ x ∧ x < 256 := by
    intro x hx
    rw [← heL] at hx
    simp only [List.mem_cons, List.mem_replicate] at hx
    rcases hx with rfl | ⟨_, rfl⟩ <;> decide
  have hbe := HBE.out
  have hbb := HBB.out
  obtain ⟨W3, hW3⟩ : ∃ W, w3.setCell ⟨bE, 0, none⟩ (.int .u8 128) = W := ⟨_, rfl⟩
  have hB3 : Below b0 w W3 := by
    rw [← hW3]
    exact (HB2.out.trans (Below.mono HB3.out (by omega))).setCell (p := ⟨bE, 0, none⟩) (show b0 ≤ bE by omega) _
  have hR3 : Kd.R (Kd.int .u8) 5 W3 W2.heap.size (fun _ => True) (.slice (some ⟨bE, 0, none⟩) np cE) eL := by
    have h := Kd.R_putn HR.out 0 (128 : Int)
    have h2 : (List.replicate np (0 : Int)).set (0 : Int).toNat 128 = eL := by
      rw [← heL, ← HNP.out.1, List.replicate_succ]
      rfl
    rw [h2] at h
    rw [← hW3]
    exact h
  have hsz3 : W3.heap.size = w3.heap.size := by rw [← hW3, World.size_setCell]
  have hblk3 : ∀ i, i < W2.heap.size → W3.heap[i]? = W2.heap[i]? := fun i hi => by
    rw [← hW3, Below.heap_setCell w3 ⟨bE, 0, none⟩ _ i (show i ≠ bE by omega)]
    exact HB3.out.block i hi
  have hIs : IsH W3 b0 b3 bs := ⟨by omega, blk, HBLK.out, by rw [hblk3 b3 (by omega), H2.out, ← HCA.out]⟩
  have hKT3 : KT W3 := HK.out.below hB3 (by omega)
  have hg0 : 0 < b0 := by rw [← hbb.1]; exact HK.out.lt
  have hB3s : b0 ≤ W3.heap.size := by omega
  have H13 := Lib.hid ((hblk3 b0 (by omega)).trans H1.out)
  rw [hW3]
  refine (write_calls hIs (some ⟨bE, 0, none⟩) cE np eL heLl (SrcRow.ofR hR3 (by omega)) (Kd.R_reads' hR3).2.1 heLb (by have := HNB.out; have := HL.out; have := HNP.out; omega) hB3s hKT3 hg0).mono ?_
  rintro e w4 ⟨rfl, hI4, hb4, hk4⟩
  have hB4 : Below b0 w w4 := hB3.trans hb4
  have c72 : w4.cell? ⟨g, 72, none⟩ = some (.int .i64 (nb : Int)) := by
    rw [hB4.cell (p := ⟨g, 72, none⟩) (show g < b0 by rw [← hbb.1]; exact HG.out)]
    exact HC72.out
  have H14 := Lib.hid ((hk4.2 b0 (by omega) (by omega) (by simp)).trans H13.out)
  have HI4 := Lib.hid hI4
  have HB4 := Lib.hid hB4
  have HK4 := Lib.hid (show KT w4 from HK.out.below hB4 (by omega))
  have HEL := Lib.hid (And.intro heL (And.intro heLl heLb))
  have HG0 := Lib.hid (And.intro hg0 (show b0 + 2 ≤ w4.heap.size by have := hk4.1; omega))
  clear heL heLl heLb hbe hbb hW3 hB3 hR3 hsz3 hblk3 hIs hKT3 hg0 hB3s hI4 hb4 hk4 hB4
  go_wp2_with fail
  have hgc := great_calls (8 * nb) 8 8 w4 wid8
  rw [show ((8 * nb : Nat) : Int) = (nb : Int) * 8 by omega] at hgc
  refine hgc.mono ?_
  clear hgc
  rintro e w5 ⟨v, rfl, hv, hb5⟩
  obtain ⟨bG, cG, hvv, hbG, hbG2, -⟩ := Kd.R_form hv (by rw [great_len]; decide)
  rw [great_len] at hvv
  subst hvv
  have hsz := HG0.out.2
  have hbb := HBB.out
  have HI5 := Lib.hid (HI4.out.below hb5)
  have HB5 := Lib.hid (HB4.out.trans (Below.mono hb5 (by omega)))
  have HR5 := Lib.hid hv
  have HK5 := Lib.hid (show KT w5 from HK.out.below HB5.out (by omega))
  have H15 := Lib.hid ((hb5.block b0 (by omega)).trans H14.out)
  have HS5 := Lib.hid (show w4.heap.size ≤ w5.heap.size from hb5.size)
  clear hv hb5 hsz hbb hbG hbG2 c72
  go_wp2_with fail
  have hIs := HI5.out
  have hbb := HBB.out
  have hg0 := HG0.out
  have hs5 := HS5.out
  obtain ⟨gL, hgL⟩ : ∃ gL, great 8 (8 * nb) = gL := ⟨_, rfl⟩
  have hr5 := HR5.out
  rw [hgL] at hr5
  refine (write_calls hIs (some ⟨bG, 0, none⟩) cG 8 gL (by rw [← hgL, great_len]) (SrcRow.ofR hr5 (by omega)) (Kd.R_reads' hr5).2.1 (by rw [← hgL]; exact great_bytes _ _) (by rw [List.length_append, HEL.out.2.1]; have := HNB.out; have := HL.out; have := HNP.out; omega) (by omega) HK5.out hg0.1).mono ?_
  rintro e w6 ⟨rfl, hI6, hb6, hk6⟩
  have hpad : (bs ++ eL) ++ gL = padB bs := by
    unfold padB
    rw [HNB.out, HPZ.out, ← hgL, ← HEL.out.1]
  rw [hpad] at hI6
  have HB6 := Lib.hid (HB5.out.trans hb6)
  have H16 := Lib.hid ((hk6.2 b0 (by omega) (by omega) (by simp)).trans H15.out)
  have HS6 := Lib.hid (show b0 + 2 ≤ w6.heap.size by have := hk6.1; omega)
  obtain ⟨st, hst⟩ : ∃ st, stOf (padB bs) = st := ⟨_, rfl⟩
  have hwd : st.wd := by rw [← hst]; exact stOf_wd _
  obtain ⟨-, pb, hpb, hc6⟩ := hI6
  rw [hst] at hc6
  have hr6 : (w6.alloc (.cells Z0 42)).rangeAt b3 0 (words st) := fun i v hv => by
    rw [blk_cell (blk_alloc hc6 (.cells Z0 42)), Nat.zero_add]
    unfold hCells
    rw [List.getElem?_toArray, List.getElem?_append_left (List.getElem?_eq_some_iff.1 hv).1]
    exact hv
  have HR6 := Lib.hid (And.intro hr6 (And.intro Tryd.underlying80 (show (Tryd.prog.info? 80).map (·.size) = some (words st).length by rw [s8_size st]; rfl)))
  have HSUM := Lib.hid (show sumP bs = outB st by unfold sumP; rw [hst])
  have HWD := Lib.hid hwd
  clear hIs hbb hg0 hs5 hgL hr5 hb6 hk6 hpad hst hwd hpb hc6 hr6
  obtain ⟨SV, hSV⟩ : ∃ V, s8 st = V := ⟨_, rfl⟩
  have HSV := Lib.hid hSV
  clear hSV
  go_wp2_with ((with_reducible show wpList _ _ _ (Oper.mk _ (Op.load 80 _) _ _ _ _ :: _) _ _); (go_loud (refine wpList_load_mid rfl 80 (.tmp 32) rfl b3 0 rfl (words st) _ HR6.out.1 HR6.out.2.1 rfl HR6.out.2.2 ?_)); rw [words_s8, HSV.out])
  have HO7 := Lib.hid (show (w6.alloc (.cells Z0 42)).heap[w6.heap.size]? = some (.cells (nums .u8 (outRow st 0)).toArray 42 (0, 0)) by
    rw [heap_alloc_new, show outRow st 0 = List.replicate 32 0 from rfl, HZ0.out])
  have H17 := Lib.hid (blk_alloc H16.out (.cells Z0 42))
  have HB7 := Lib.hid (HB6.out.alloc (by have := HS6.out; omega) (.cells Z0 42))
  obtain ⟨W7, hW7⟩ : ∃ W, w6.alloc (.cells Z0 42) = W := ⟨_, rfl⟩
  rw [hW7] at HO7 H17 HB7 ⊢
  obtain ⟨bo, hbo⟩ : ∃ b, w6.heap.size = b := ⟨_, rfl⟩
  rw [hbo] at HO7 ⊢
  have HBO := Lib.hid (show b0 < bo by have := HS6.out; omega)
  have HS1 := Lib.hid (show (Tryd.prog.info? 5).map (·.size) = some 1 by kernel_rfl)
  have HIX := Lib.hid (show ∀ (j : Nat), j < 8 → ∀ W : World, (Instr.index 80 (.agg SV) (.int .i64 (j : Int))).run Tryd.prog W = .ok (.int .u32 (st.at8 j)) W from fun j hj W => by rw [← HSV.out]; exact index8 st j hj W)
  have HU31 := Lib.hid Tryd.underlying42
  clear hW7 hbo e1 e2 e3 e4 hnl
  go_loopw [34] (fun i wx => ∃ k : Nat, k ≤ 8 ∧ i = .int .i64 (k : Int) ∧ Hid (wx.heap[bo]? = some (.cells (nums .u8 (outRow st k)).toArray 42 (0, 0)) ∧ wx.heap[b0]? = some (.cells Z0 42 (0, 0)) ∧ Below b0 w wx)) (fun i _ => (8 - intOf i).toNat)
  case atStart => exact ⟨0, by omega, rfl, Lib.hid ⟨HO7.out, H17.out, HB7.out⟩⟩
  case round =>
    obtain ⟨k, hk, rfl, H⟩ := hrel
    obtain ⟨ho, hz, hbl⟩ := H.out
    have HO := Lib.hid ho
    have HZ := Lib.hid hz
    have HBL := Lib.hid hbl
    by_cases hlt : k < 8
    · have hx : Wd (st.at8 k) := by
        have h := HWD.out
        match k, hlt with
        | 0, _ => exact h.1.1
        | 1, _ => exact h.1.2.1
        | 2, _ => exact h.1.2.2.1
        | 3, _ => exact h.1.2.2.2
        | 4, _ => exact h.2.1
        | 5, _ => exact h.2.2.1
        | 6, _ => exact h.2.2.2.1
        | 7, _ => exact h.2.2.2.2
      have ix := HIX.out k hlt
      have hsp := outRow_splice st k hlt
      have hol := outRow_len st k (by omega)
      obtain ⟨x, hxx⟩ : ∃ x, st.at8 k = x := ⟨_, rfl⟩
      rw [hxx] at ix hx hsp
      obtain ⟨o, hoo⟩ : ∃ o, 4 * k = o := ⟨_, rfl⟩
      rw [hoo] at hsp
      have hso := fun W => slice_o W bo o (by omega)
      have m4 : IntKind.i64.wrap (4 * (k : Int)) = (o : Int) := by rw [IntKind.wrap_i64]; omega
      have m5 : 4 * (k : Int) = (o : Int) := by omega
      have m6 : IntKind.i64.wrap (o : Int) = (o : Int) := by rw [IntKind.wrap_i64]; omega
      have xw : IntKind.u64.wrap x = x := by rw [IntKind.wrap_u64]; have := hx.1; have := hx.2; omega
      have x0 : 0 ≤ x := hx.1
      have x1 : x < 4294967296 := hx.2
      obtain ⟨gs, hgs⟩ : ∃ gs, great 4 x.toNat = gs := ⟨_, rfl⟩
      have hgsl : gs.length = 4 := by rw [← hgs, great_len]
      rw [hgs] at hsp
      have HGC := Lib.hid (show ∀ W : World, Calls Tryd.prog 49 #[.int .u64 x, .int .i64 4] W fun e w' => ∃ v, e = .returned v ∧ Kd.R (Kd.int .u8) 5 w' W.heap.size (fun _ => True) v gs ∧ Below W.heap.size W w' from fun W => by
        have h := great_calls x.toNat 4 4 W wid4
        rw [Int.toNat_of_nonneg x0, hgs] at h
        exact h)
      have HSP := Lib.hid hsp
      have HGS := Lib.hid hgsl
      have HOL := Lib.hid hol
      have HOK := Lib.hid (show o + 4 ≤ 32 by omega)
      have HCN := Lib.hid (show (nums .u8 gs).length = Nat.min 4 (32 - o) by simp only [nums, List.length_map]; rw [hgsl]; exact (Nat.min_eq_left (by omega)).symm)
      have HCF := Lib.hid (show o + (nums .u8 gs).length ≤ (nums .u8 (outRow st k)).length by simp only [nums, List.length_map]; omega)
      have H8 := Lib.hid (show ∀ w8 : World, Below wr.drew.heap.size wr.drew w8 → w8.heap[bo]? = some (.cells (nums .u8 (outRow st k)).toArray 42 (0, 0)) ∧ w8.heap[b0]? = some (.cells Z0 42 (0, 0)) ∧ Below b0 w w8 from fun w8 h8 => by
        refine ⟨(h8.block bo (show bo < wr.heap.size from blk_lt HO.out)).trans HO.out, (h8.block b0 (show b0 < wr.heap.size from blk_lt HZ.out)).trans HZ.out, (below_drew HBL.out).trans (Below.mono h8 ?_)⟩
        show b0 ≤ wr.heap.size
        have := blk_lt HZ.out
        omega)
      clear hx hsp hol hxx hoo hgs hgsl ho hz hbl H
      go_wp2_with fail
      go_region_law (first
        | (go_simp; go_at_call 49; (with_reducible refine (HGC.out _).mono ?_); rintro e w8 ⟨v8, rfl, hv8, hb8⟩; obtain ⟨A8, c8, hvv, hc8, hC8⟩ := Kd.R_reads hv8; rw [HGS.out] at hvv hc8; subst hvv; have HC8 := Lib.hid hC8; have HO8 := Lib.hid (H8.out w8 hb8).1; have HZ8 := Lib.hid (H8.out w8 hb8).2.1; have HB8 := Lib.hid (H8.out w8 hb8).2.2; clear hv8 hb8 hc8 hC8)
        | (refine step_copy_splice (by rfl) (.tmp 40) (.tmp 43) 28 28 (by rfl) 5 HU27.out HS1.out (some ⟨bo, o, none⟩) A8 (32 - o) (32 - o) 4 c8 (by rfl) (by rfl) bo o (nums .u8 (outRow st k)) 42 HO8.out (nums .u8 gs) HCN.out (fun hp => ⟨rfl, C_cells HC8.out (by rw [HGS.out]; decide)⟩) HCF.out (nums_one _ _) bo w8 (Below.refl _ _) (Nat.le_refl _) ?_; intro w9 hk9 hb9; have HO9 := Lib.hid hk9.out; have HB9 := Lib.hid hb9; clear hk9 hb9))
      all_goals
        clear ix hso m4 m5 m6 xw x0 x1
        have HZ9 := Lib.hid ((HB9.out.block b0 HBO.out).trans HZ8.out)
        have HO10 := Lib.hid (show w9.heap[bo]? = some (.cells (nums .u8 (outRow st (k + 1))).toArray 42 (0, 0)) by rw [HO9.out, HSP.out])
        have HB10 := Lib.hid (HB8.out.trans (Below.mono HB9.out (Nat.le_of_lt HBO.out)))
        go_wp2
        go_roundw
        case rel => exact ⟨k + 1, by omega, by go_num, Lib.hid ⟨HO10.out, HZ9.out, HB10.out⟩⟩
        case measure => simp only [intOf]; omega
    · obtain rfl : k = 8 := by omega
      obtain ⟨RA, hRA⟩ : ∃ R, (nums .u8 (sumP bs)).toArray = R := ⟨_, rfl⟩
      have hfin : nums .u8 (outRow st 8) = nums .u8 (sumP bs) := by
        rw [HSUM.out, ← greats_8]
        simp [outRow]
      have hsl : (nums .u8 (sumP bs)).length = 32 := by simp [nums, sumP_len]
      have HF := Lib.hid (show wr.heap[bo]? = some (.cells RA 42 (0, 0)) by rw [ho, hfin, hRA])
      have HRS := Lib.hid (show (Tryd.prog.info? 42).map (·.size) = some RA.size ∧ Z0.size = RA.size ∧ RA.all (·.oneCell') = true by
        have h32 : RA.size = 32 := by rw [← hRA]; exact hsl
        refine ⟨by rw [h32]; exact (zero_of_info infoHash).2, by rw [h32, ← HZ0.out]; rfl, by rw [← hRA]; exact all_oneCell_toArray (nums_one _ _)⟩)
      have HRR := Lib.hid hRA
      clear ho hz hbl H hRA hfin hsl hk hlt
      rw [show ((8 : Nat) : Int) = 8 from rfl]
      go_wp2_with (first | ((with_reducible show wpList _ _ _ (Oper.mk _ (Op.load _ _) _ _ _ _ :: _) _ _); (go_loud (refine wpList_load_row rfl 42 (.tmp 5) rfl bo rfl 42 RA (0, 0) _ HF.out HU31.out rfl HRS.out.1 ?_))) | ((with_reducible show wpList _ _ _ (Oper.mk _ (Op.store _ _ _) _ _ _ _ :: _) _ _); (go_loud (refine wpList_store_row rfl 42 (.tmp 2) (.tmp 46) rfl b0 RA rfl rfl 42 Z0 HZ.out HRS.out.1 HRS.out.2.1 HRS.out.2.2 ?_))))
      exact bodyPost_ret (results_cell_row rfl _ _ b0 42 RA (0, 0) _ rfl (setRow_heap _ _ _ _ _ _ HZ.out) HU31.out rfl HRS.out.1) rfl ⟨by rw [HRR.out], by rw [HBB.out.1]; exact below_setRow HBL.out (Nat.le_refl _) _⟩
end Go.Proofs.YtpjkhecefppamaaDoor.Hand

/- The sum, and the double sum, of many parts. -/
namespace Go.Proofs.YtpjkhecefppamaaDoor.Hand
open Go Go.RowKit Go.Proofs.YtpjkhecefppamaaDoor.Plain Go.Proofs.YtpjkhecefppamaaDoor.PAll Go.Proofs.YtpjkhecefppamaaDoorW.PrintWords Go.Proofs.YtpjkhecefppamaaDoorW.PrintLast Go.Proofs.YtpjkhecefppamaaDoorW.PrintMore
set_option linter.unusedVariables false
set_option linter.unusedSimpArgs false
set_option maxRecDepth 100000
/-- Texts that are read. -/
abbrev kBs : Kd (List Int) := Kd.slice 5 (Kd.int .u8)
theorem SrcRow.old {w0 w : World} {g : Nat} {A : Option Addr} {ys : List Int} (h : Kd.C (Kd.int .u8) w0 A ys.length ys) (hb : Below w0.heap.size w0 w) (hg : w0.heap.size ≤ g) : SrcRow w g A ys := by
  by_cases h0 : 0 < ys.length
  · obtain ⟨ad, hA, hc⟩ := C_cells h h0
    have hlt := block_lt_of_cell (hc 0 (.int .u8 (rd ys 0)) (by simp [nums, rd, h0]))
    rw [add_block] at hlt
    refine ⟨ad, fun _ => ⟨hA, by omega, Nat.lt_of_lt_of_le hlt hb.size, fun j hj => ?_⟩⟩
    rw [hb.cell (p := ad.add j) (by rw [add_block]; exact hlt)]
    exact hc j _ (by simp [nums, rd, hj])
  · exact ⟨⟨0, 0, none⟩, fun h => absurd h h0⟩
/-- An element of a row of texts. -/
theorem C_text {w : World} {A : Option Addr} {yss : List (List Int)} (h : Kd.C kBs w A yss.length yss) {i : Nat} (hi : i < yss.length) : ∃ ad Ai ci, A = some ad ∧ w.cell? (ad.add i) = some (.slice Ai (yss[i]).length ci) ∧ (yss[i]).length ≤ ci ∧ Kd.C (Kd.int .u8) w Ai (yss[i]).length (yss[i]) := by
  obtain ⟨_, _, h3⟩ := h
  obtain ⟨ad, e, hc⟩ := h3 (by omega)
  obtain ⟨c, hl, hK, hcell⟩ := hc i yss[i] (List.getElem?_eq_getElem hi)
  obtain ⟨Ai, ci, hcc, hle, hC⟩ := hK
  subst hcc
  refine ⟨ad, Ai, ci, e, ?_, hle, hC⟩
  have := hcell 0 _ rfl
  rw [← this]
  congr 2
  show i = i * 1 + 0
  omega
set_option maxHeartbeats 1000000 in
set_option maxRecDepth 100000 in
theorem sums_calls (A : Option Addr) (n c : Nat) (yss : List (List Int)) (w : World) (hn : yss.length = n) (hr : Kd.C kBs w A n yss) (hy : ∀ ys ∈ yss, ∀ x ∈ ys, 0 ≤ x ∧ x < 256) (hl : yss.flatten.length ≤ 900000) (hn1 : n ≤ 1000000) (hK : KT w) :
    Calls Tryd.prog 39 #[.slice A n c] w fun e w' => e = .returned (.agg (nums .u8 (sumP yss.flatten)).toArray) ∧ Below w.heap.size w w' := by
  have hz31 := (zero_of_info infoHash).1
  obtain ⟨Z0, hZ0⟩ : ∃ C, (nums .u8 (List.replicate 32 0)).toArray = C := ⟨_, rfl⟩
  rw [hZ0] at hz31
  have HZ0 := Lib.hid hZ0
  have HR := Lib.hid hr
  have HN := Lib.hid hn
  have HY := Lib.hid hy
  have HL := Lib.hid hl
  have HK := Lib.hid hK
  have HU31 := Lib.hid Tryd.underlying42
  clear hr hn hy hl hK hZ0
  go_enter Tryd.func39, Tryd.ntmps39
  go_wp2_with fail
  refine (new_calls _).mono ?_
  rintro e w1 ⟨g, rfl, hI, hb1⟩
  have HB1 := Lib.hid ((below_alloc (Below.refl w.heap.size w) (.cells Z0 42)).trans (Below.mono hb1 (by rw [World.size_alloc]; omega)))
  have HZ1 := Lib.hid ((hb1.block w.heap.size (by rw [World.size_alloc]; omega)).trans (heap_alloc_new w (.cells Z0 42)))
  have HI := Lib.hid hI
  have HGB := Lib.hid (show w.heap.size + 1 ≤ g by have := hI.1; rw [World.size_alloc] at this; exact this)
  have hK0 : 0 < w.heap.size := HK.out.lt
  have HK0 := Lib.hid hK0
  clear hI hb1 hz31 hK0
  go_wp2_with fail
  go_loopw [9] (fun i wr => ∃ k : Nat, k ≤ n ∧ i = .int .i64 (k : Int) ∧ Hid (IsH wr (w.heap.size + 1) g (yss.take k).flatten ∧ Below w.heap.size w wr ∧ wr.heap[w.heap.size]? = some (.cells Z0 42 (0, 0)) ∧ w.heap.size + 1 ≤ wr.heap.size)) (fun i _ => (n - (intOf i).toNat))
  case atStart => exact ⟨0, by omega, rfl, Lib.hid ⟨⟨HGB.out, HI.out.2⟩, HB1.out, HZ1.out, by have := HI.out.lt; have := HGB.out; omega⟩⟩
  case round =>
    obtain ⟨k, hk, rfl, H⟩ := hrel
    obtain ⟨hI, hbl, hz, hsz⟩ := H.out
    by_cases hlt : k < n
    · have hklt : k < yss.length := by rw [HN.out]; exact hlt
      obtain ⟨ad, Ai, ci, hA, hcell, hci, hCi⟩ := C_text (by rw [HN.out]; exact HR.out) hklt
      subst hA
      have hadb := block_lt_of_cell hcell
      have hcell2 : wr.cell? (ad.add k) = some (.slice Ai (yss[k]).length ci) := (hbl.cell (p := ad.add k) hadb).trans hcell
      have hcell3 : wr.cell? (ad.add (k * 1)) = some (.slice Ai (yss[k]).length ci) := by rw [Nat.mul_one]; exact hcell2
      have hsum : (yss.take k).flatten.length + (yss[k]).length ≤ 1000000 := by
        have h1 : (yss.take (k + 1)).flatten = (yss.take k).flatten ++ yss[k] := by
          rw [List.take_succ_eq_append_getElem hklt, List.flatten_append]
          simp
        have h2 : yss.flatten = (yss.take (k + 1)).flatten ++ (yss.drop (k + 1)).flatten := by rw [← List.flatten_append, List.take_append_drop]
        have h3 := HL.out
        rw [h2, h1] at h3
        simp only [List.length_append] at h3
        omega
      have hstep : (yss.take (k + 1)).flatten = (yss.take k).flatten ++ yss[k] := by
        rw [List.take_succ_eq_append_getElem hklt, List.flatten_append]
        simp
      obtain ⟨ys, hys⟩ : ∃ ys, yss[k] = ys := ⟨_, rfl⟩
      rw [hys] at hcell2 hcell3 hci hCi hsum hstep
      have hyb : ∀ x ∈ ys, 0 ≤ x ∧ x < 256 := HY.out ys (by rw [← hys]; exact List.getElem_mem hklt)
      obtain ⟨m, hm⟩ : ∃ m, ys.length = m := ⟨_, rfl⟩
      rw [hm] at hcell2 hcell3 hci hsum
      have HW := Lib.hid (write_calls (w := wr) hI Ai ci m ys hm (SrcRow.old hCi hbl (by have := HGB.out; omega)) hci hyb hsum hsz (HK.out.below hbl (Nat.le_refl _)) (by have := HK0.out; omega))
      have HST := Lib.hid hstep
      have HBL := Lib.hid hbl
      have HZ := Lib.hid hz
      have HSZ := Lib.hid hsz
      clear hI hbl hz hsz H hcell hadb hci hCi hsum hstep hys hyb hm hklt
      go_wp2_with fail
      refine HW.out.mono ?_
      rintro e w4 ⟨rfl, hI4, hb4, hk4⟩
      have HI4 := Lib.hid (show IsH w4 (w.heap.size + 1) g (yss.take (k + 1)).flatten by rw [HST.out]; exact hI4)
      have HB4 := Lib.hid (HBL.out.trans (Below.mono hb4 (by omega)))
      have HZ4 := Lib.hid ((hk4.2 w.heap.size (by have := HSZ.out; omega) (by have := HGB.out; omega) (by simp)).trans HZ.out)
      have HSZ4 := Lib.hid (show w.heap.size + 1 ≤ w4.heap.size from Nat.le_trans HSZ.out hk4.1)
      clear hI4 hb4 hk4
      go_wp2
      go_roundw
      case rel => exact ⟨k + 1, by omega, by go_num, Lib.hid ⟨HI4.out, HB4.out, HZ4.out, HSZ4.out⟩⟩
      case measure => simp only [intOf]; omega
    · obtain rfl : k = n := by omega
      have hfl : (yss.take k).flatten = yss.flatten := by rw [List.take_of_length_le (by rw [HN.out]; omega)]
      rw [hfl] at hI
      have hfb : ∀ x ∈ yss.flatten, 0 ≤ x ∧ x < 256 := by
        intro x hx
        obtain ⟨ys, h1, h2⟩ := List.mem_flatten.1 hx
        exact HY.out ys h1 x h2
      have HSU := Lib.hid (hsum_calls hI HL.out hfb (HK.out.below hbl (Nat.le_refl _)))
      have HBL := Lib.hid hbl
      have HZ := Lib.hid hz
      obtain ⟨RA, hRA⟩ : ∃ R, (nums .u8 (sumP yss.flatten)).toArray = R := ⟨_, rfl⟩
      have hsl : (nums .u8 (sumP yss.flatten)).length = 32 := by simp [nums, sumP_len]
      rw [hRA] at HSU
      have HRS := Lib.hid (show (Tryd.prog.info? 42).map (·.size) = some RA.size ∧ Z0.size = RA.size ∧ RA.all (·.oneCell') = true by
        have h32 : RA.size = 32 := by rw [← hRA]; exact hsl
        refine ⟨by rw [h32]; exact (zero_of_info infoHash).2, by rw [h32, ← HZ0.out]; rfl, by rw [← hRA]; exact all_oneCell_toArray (nums_one _ _)⟩)
      have HRR := Lib.hid hRA
      clear hI hbl hz hsz H hfl hfb hRA hsl hlt hk
      go_wp2_with fail
      refine HSU.out.mono ?_
      rintro e w5 ⟨rfl, hb5⟩
      have HZ5 := Lib.hid ((hb5.block w.heap.size (blk_lt HZ.out)).trans HZ.out)
      have HB5 := Lib.hid (HBL.out.trans (Below.mono hb5 HBL.out.size))
      clear hb5 HSU
      go_wp2_with ((with_reducible show wpList _ _ _ (Oper.mk _ (Op.store _ _ _) _ _ _ _ :: _) _ _); (go_loud (refine wpList_store_row rfl 42 (.tmp 2) (.tmp 18) rfl w.heap.size RA rfl rfl 42 Z0 HZ5.out HRS.out.1 HRS.out.2.1 HRS.out.2.2 ?_)))
      exact bodyPost_ret (results_cell_row rfl _ _ w.heap.size 42 RA (0, 0) _ rfl (setRow_heap _ _ _ _ _ _ HZ5.out) HU31.out rfl HRS.out.1) rfl ⟨by rw [HRR.out], below_setRow HB5.out (Nat.le_refl _) _⟩
/-- One text, in a list made for it. -/
theorem C_one {w : World} {b c : Nat} {t : TypeId} {A : Option Addr} {ys : List Int} (hb : w.heap[b]? = some (.cells #[.slice A ys.length c] t (0, 0))) (hc : ys.length ≤ c) (h : Kd.C (Kd.int .u8) w A ys.length ys) : Kd.C kBs w (some ⟨b, 0, none⟩) 1 [ys] := by
  refine ⟨rfl, by decide, fun _ => ⟨⟨b, 0, none⟩, rfl, fun j p hj => ?_⟩⟩
  have hj1 := (List.getElem?_eq_some_iff.1 hj).1
  have hj0 : j = 0 := by simpa using hj1
  subst hj0
  have hp : p = ys := by simpa using hj.symm
  subst hp
  refine ⟨[.slice A p.length c], rfl, ⟨A, c, rfl, hc, h⟩, fun i u hu => ?_⟩
  have hi1 := (List.getElem?_eq_some_iff.1 hu).1
  have hi0 : i = 0 := by simpa using hi1
  subst hi0
  have : u = .slice A p.length c := by simpa using hu.symm
  subst this
  exact show w.cell? ⟨b, 0, none⟩ = some (.slice A p.length c) from (blk_cell hb 0).trans rfl
theorem slice_all (W : World) (g : Nat) : (Instr.sliceAt 42 (.pointer (some ⟨g, 0, none⟩)) none none none).run Tryd.prog W = .ok (.slice (some ⟨g, 0, none⟩) 32 32) W := by
  rw [run_sliceAt_array_all W 42 ⟨g, 0, none⟩ arr32.1]
  have z : (sizeOf (Tryd.prog.elem 42)).run Tryd.prog W = .ok 1 W := by rfl
  rw [z, arr32.2]
  rfl
theorem nums_size (k : IntKind) (l : List Int) : (nums k l).toArray.size = l.length := by simp [nums]
set_option maxHeartbeats 1000000 in
set_option maxRecDepth 100000 in
theorem twice_calls (A : Option Addr) (n c : Nat) (yss : List (List Int)) (w : World) (hn : yss.length = n) (hr : Kd.C kBs w A n yss) (hy : ∀ ys ∈ yss, ∀ x ∈ ys, 0 ≤ x ∧ x < 256) (hl : yss.flatten.length ≤ 900000) (hn1 : n ≤ 1000000) (hK : KT w) :
    Calls Tryd.prog 28 #[.slice A n c] w fun e w' => e = .returned (.agg (nums .u8 (twiceP yss.flatten)).toArray) ∧ Below w.heap.size w w' := by
  have hz31 := (zero_of_info infoHash).1
  obtain ⟨Z0, hZ0⟩ : ∃ C, (nums .u8 (List.replicate 32 0)).toArray = C := ⟨_, rfl⟩
  rw [hZ0] at hz31
  have HZ0 := Lib.hid hZ0
  have HU31 := Lib.hid Tryd.underlying42
  have hba := below_alloc (Below.refl w.heap.size w) (.cells Z0 42)
  have HS := Lib.hid (sums_calls A n c yss (w.alloc (.cells Z0 42)) hn (Kd.C_below hr hba) hy hl hn1 (hK.below hba (Nat.le_refl _)))
  have HK := Lib.hid hK
  obtain ⟨S1, hS1⟩ : ∃ S, sumP yss.flatten = S := ⟨_, rfl⟩
  have hl1 : S1.length = 32 := by rw [← hS1]; exact sumP_len _
  have hb1 : ∀ x ∈ S1, 0 ≤ x ∧ x < 256 := by rw [← hS1]; exact sumP_bytes _
  obtain ⟨S2, hS2⟩ : ∃ S, twiceP yss.flatten = S := ⟨_, rfl⟩
  have hS2' : sumP S1 = S2 := by rw [← hS2, ← hS1]; rfl
  have hl2 : S2.length = 32 := by rw [← hS2']; exact sumP_len _
  rw [hS1] at HS
  rw [hS2]
  obtain ⟨RA, hRA⟩ : ∃ R, (nums .u8 S1).toArray = R := ⟨_, rfl⟩
  rw [hRA] at HS
  obtain ⟨RB, hRB⟩ : ∃ R, (nums .u8 S2).toArray = R := ⟨_, rfl⟩
  rw [hRB]
  have h32 : ∀ S : List Int, S.length = 32 → (Tryd.prog.info? 42).map (·.size) = some (nums .u8 S).toArray.size ∧ Z0.size = (nums .u8 S).toArray.size ∧ (nums .u8 S).toArray.all (·.oneCell') = true := fun S hS => by
    have h : (nums .u8 S).toArray.size = 32 := by rw [nums_size]; exact hS
    exact ⟨by rw [h]; exact (zero_of_info infoHash).2, by rw [h, ← hZ0]; rfl, all_oneCell_toArray (nums_one _ _)⟩
  have HRA := Lib.hid (hRA ▸ h32 S1 hl1)
  have HRB := Lib.hid (hRB ▸ h32 S2 hl2)
  have HS1 := Lib.hid (And.intro hl1 (And.intro hb1 (And.intro hRA (And.intro hS2' hRB))))
  clear hr hn hy hl hK hba hS1 hl1 hb1 hS2 hS2' hl2 hRA hRB h32 hZ0
  go_enter Tryd.func28, Tryd.ntmps28
  go_wp2_with fail
  refine HS.out.mono ?_
  rintro e w1 ⟨rfl, hb1⟩
  have HZ1 := Lib.hid ((hb1.block w.heap.size (by rw [World.size_alloc]; omega)).trans (heap_alloc_new w (.cells Z0 42)))
  have HB1 := Lib.hid ((below_alloc (Below.refl w.heap.size w) (.cells Z0 42)).trans (Below.mono hb1 (by rw [World.size_alloc]; omega)))
  have HW1 := Lib.hid (show w.heap.size < w1.heap.size from Nat.lt_of_lt_of_le (by rw [World.size_alloc]; omega) hb1.size)
  have hs := fun W => slice_all W w1.heap.size
  clear hb1
  go_wp2_with ((with_reducible show wpList _ _ _ (Oper.mk _ (Op.store _ _ _) _ _ _ _ :: _) _ _); (go_loud (refine wpl_store_new rfl 42 (.tmp 3) (.tmp 5) rfl Z0 RA rfl rfl HRA.out.1 HRA.out.2.1 HRA.out.2.2 ?_)))
  have hnew := heap_alloc_new (w1.alloc (.cells RA 42)) (.cells #[.slice (some ⟨w1.heap.size, 0, none⟩) 32 32] 28)
  rw [World.size_alloc] at hnew
  have hold := blk_alloc (heap_alloc_new w1 (.cells RA 42)) (.cells #[.slice (some ⟨w1.heap.size, 0, none⟩) 32 32] 28)
  have hba : Below w1.heap.size w1 ((w1.alloc (.cells RA 42)).alloc (.cells #[.slice (some ⟨w1.heap.size, 0, none⟩) 32 32] 28)) := below_alloc (below_alloc (Below.refl _ _) _) _
  have hC : Kd.C (Kd.int .u8) ((w1.alloc (.cells RA 42)).alloc (.cells #[.slice (some ⟨w1.heap.size, 0, none⟩) 32 32] 28)) (some ⟨w1.heap.size, 0, none⟩) S1.length S1 := C_of_block (pre := []) (post := []) (t := 42) (fr := (0, 0)) (by rw [List.nil_append, List.append_nil, HS1.out.2.2.1]; exact hold) rfl (by rw [HS1.out.1]; decide)
  have HZ2 := Lib.hid ((hba.block w.heap.size HW1.out).trans HZ1.out)
  have HB2 := Lib.hid (HB1.out.trans (Below.mono hba (Nat.le_of_lt HW1.out)))
  have hs2 := sums_calls (some ⟨w1.heap.size + 1, 0, none⟩) 1 1 [S1] _ rfl (C_one (A := some ⟨w1.heap.size, 0, none⟩) (c := 32) (ys := S1) (by rw [HS1.out.1]; exact hnew) (by rw [HS1.out.1]; decide) hC) (by simpa using HS1.out.2.1) (by simp [HS1.out.1]) (by decide) (HK.out.below HB2.out (Nat.le_refl _))
  rw [show [S1].flatten = S1 by simp, HS1.out.2.2.2.1, HS1.out.2.2.2.2] at hs2
  have HS2 := Lib.hid hs2
  clear hnew hold hba hC hs2 hs
  refine HS2.out.mono ?_
  rintro e w5 ⟨rfl, hb5⟩
  have HZ5 := Lib.hid ((hb5.block w.heap.size (blk_lt HZ2.out)).trans HZ2.out)
  have HB5 := Lib.hid (HB2.out.trans (Below.mono hb5 HB2.out.size))
  clear hb5 HS2
  go_wp2_with ((with_reducible show wpList _ _ _ (Oper.mk _ (Op.store _ _ _) _ _ _ _ :: _) _ _); (go_loud (refine wpList_store_row rfl 42 (.tmp 2) (.tmp 8) rfl w.heap.size RB rfl rfl 42 Z0 HZ5.out HRB.out.1 HRB.out.2.1 HRB.out.2.2 ?_)))
  exact bodyPost_ret (results_cell_row rfl _ _ w.heap.size 42 RB (0, 0) _ rfl (setRow_heap _ _ _ _ _ _ HZ5.out) HU31.out rfl HRB.out.1) rfl ⟨rfl, below_setRow HB5.out (Nat.le_refl _) _⟩
end Go.Proofs.YtpjkhecefppamaaDoor.Hand

/- The document's example: the answer is true. -/
namespace Go.Proofs.YtpjkhecefppamaaDoor.Hand
open Go Go.RowKit Go.Proofs.YtpjkhecefppamaaDoor.Plain Go.Proofs.YtpjkhecefppamaaDoor.PAll Go.Proofs.YtpjkhecefppamaaDoorW.PrintWords Go.Proofs.YtpjkhecefppamaaDoorW.PrintLast Go.Proofs.YtpjkhecefppamaaDoorW.PrintMore
set_option linter.unusedVariables false
set_option linter.unusedSimpArgs false
set_option maxRecDepth 100000
theorem abc_sum : rd (sumP [97, 98, 99]) 0 = 186 ∧ rd (sumP [97, 98, 99]) 1 = 120 ∧ rd (sumP [97, 98, 99]) 30 = 21 ∧ rd (sumP [97, 98, 99]) 31 = 173 := by decide +kernel
theorem blk_lt' {w : World} {b : Nat} {o : Obj} (h : w.heap[b]? = some o) : b < w.heap.size := (Array.getElem?_eq_some_iff.1 h).1
theorem blk_alloc' {w : World} {b : Nat} {o : Obj} (h : w.heap[b]? = some o) (o' : Obj) : (w.alloc o').heap[b]? = some o := by
  rw [(below_alloc (Below.refl w.heap.size w) o').block b (blk_lt' h)]
  exact h
theorem rd_cell {S : List Int} {j : Nat} (h : j < S.length) : (nums .u8 S).toArray[j]? = some (.int .u8 (rd S (j : Int))) := by
  simp [nums, rd, h]
end Go.Proofs.YtpjkhecefppamaaDoor.Hand
