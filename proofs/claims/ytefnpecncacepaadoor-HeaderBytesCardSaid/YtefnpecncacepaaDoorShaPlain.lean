/- The step of a block: what it computes. -/
import Derived.Test.YtefnpecncacepaaDoorProg
import Derived.Below
import Derived.Deep.Draws
import Derived.Deep.AppendLies
import Derived.Maps.AppendAt
import Derived.OwnWalk
import Derived.Laws.BytesArg
import Derived.Laws.MakeOwn
import Derived.Laws.OwnMore
import Derived.Deep.OwnRows
import Derived.Tactics
import Derived.Lib.ConvBytes
import Derived.Laws.Slices
import Derived.WalkKit
import Derived.KernelRfl
import Derived.RowKit3
import Derived.Deep.LoopGhost
import Derived.Deep.QuietTactic
import Derived.BigQuiet
import Derived.WideLaws
import Derived.Deep.DeepCutAuto
import Derived.Deep.CutBlock
import Derived.Deep.RegionHeld3
import Derived.Laws.Rows
import Derived.Lib.AppendStr
import Derived.ArgAppend
import Derived.Laws.IdiomCopy
import Derived.OrdersHeld
import Derived.Laws.BitsLemmas
import Derived.RowKit
import Derived.StillTailTactics
import Derived.Test.YtefnpecncacepaaDoorWWords
import Derived.Test.YtefnpecncacepaaDoorWLast
import Derived.Test.YtefnpecncacepaaDoorWMore
import Derived.Lib.Hide
import Derived.Test.YtefnpecncacepaaDoorRot
namespace Go.Proofs.YtefnpecncacepaaDoor.Hand
open Go Go.RowKit Go.Proofs.YtefnpecncacepaaDoor.Plain Go.Proofs.YtefnpecncacepaaDoor.PAll Go.Proofs.YtefnpecncacepaaDoorW.PrintWords Go.Proofs.YtefnpecncacepaaDoorW.PrintLast Go.Proofs.YtefnpecncacepaaDoorW.PrintMore
set_option linter.unusedVariables false
set_option linter.unusedSimpArgs false
set_option maxRecDepth 100000
/-- A word. -/
def Wd (x : Int) : Prop := 0 ≤ x ∧ x < 4294967296
def rrI (x : Int) (k : Nat) : Int := ((rr x.toNat k : Nat) : Int)
def x3 (a b c : Int) : Int := Go.bits .xor .u32 (Go.bits .xor .u32 a b) c
def add32 (a b : Int) : Int := (a + b) % 4294967296
theorem add32_wd (a b : Int) : Wd (add32 a b) := by unfold add32 Wd; omega
theorem rrI_wd {x : Int} (h : Wd x) (k : Nat) : Wd (rrI x k) := by
  have := rr_lt (x := x.toNat) (k := k) (by have := h.2; have := h.1; show x.toNat < 4294967296; omega)
  unfold rrI Wd
  have h2 : rr x.toNat k < 4294967296 := this
  omega
theorem oright_I {x : Int} (h : Wd x) (k : Nat) (hk : k < 32) : octet_Right32.f x (k : Int) = some (rrI x k) := by
  have := oright_f x.toNat k (by have := h.2; have := h.1; show x.toNat < 4294967296; omega) hk
  rwa [Int.toNat_of_nonneg h.1] at this
theorem rright_I {x : Int} (h : Wd x) (k : Nat) (hk : k ≤ 32) : mastheadref02_right.f 40 x (k : Int) = some (rrI x k) := by
  have := rright_f x.toNat k (by have := h.2; have := h.1; show x.toNat < 4294967296; omega) hk
  rwa [Int.toNat_of_nonneg h.1] at this
theorem turned_I {x : Int} (h : Wd x) (a b c : Nat) (ha : a < 32) (hb : b < 32) (hc : c < 32) : sha2_turned.f x (a : Int) (b : Int) (c : Int) = some (x3 (rrI x a) (rrI x b) (rrI x c)) := by
  unfold sha2_turned.f
  rw [oright_I h a ha, oright_I h b hb, oright_I h c hc]
  rfl
/-- The two of the words that follow. -/
def sg0 (x : Int) : Int := x3 (rrI x 7) (rrI x 18) (x / 8)
def sg1 (y : Int) : Int := x3 (rrI y 17) (rrI y 19) (y / 1024)
theorem shr3 {x : Int} (h : Wd x) : shr .u32 x 3 = x / 8 := by
  have := shr32 x.toNat 3 (by decide)
  rw [Int.toNat_of_nonneg h.1] at this
  rw [show ((3 : Nat) : Int) = 3 from rfl] at this
  rw [this]
  have h0 := h.1
  simp only [show (2 : Nat) ^ 3 = 8 from rfl]
  omega
theorem shr10 {x : Int} (h : Wd x) : shr .u32 x 10 = x / 1024 := by
  have := shr32 x.toNat 10 (by decide)
  rw [Int.toNat_of_nonneg h.1] at this
  rw [show ((10 : Nat) : Int) = 10 from rfl] at this
  rw [this]
  have h0 := h.1
  simp only [show (2 : Nat) ^ 10 = 1024 from rfl]
  omega
/-- The next word, of those so far. -/
def wAt (ws : List Int) (i : Nat) : Int := add32 (add32 (add32 (rd ws ((i - 16 : Nat) : Int)) (sg0 (rd ws ((i - 15 : Nat) : Int)))) (rd ws ((i - 7 : Nat) : Int))) (sg1 (rd ws ((i - 2 : Nat) : Int)))
def ext : Nat → List Int → List Int
  | 0, ws => ws
  | n + 1, ws => ext n (ws ++ [wAt ws ws.length])
/-- The word at a place of a block. -/
def big4 (b : List Int) (i : Nat) : Int := (rd b ((4 * i : Nat) : Int) * 16777216 + rd b ((4 * i + 1 : Nat) : Int) * 65536 + rd b ((4 * i + 2 : Nat) : Int) * 256 + rd b ((4 * i + 3 : Nat) : Int)) % 4294967296
def first16 (b : List Int) : List Int := (List.range 16).map (big4 b)
/-- A block's words. -/
def wds (b : List Int) : List Int := ext 48 (first16 b)
def kT : List Int := [1116352408, 1899447441, 3049323471, 3921009573, 961987163, 1508970993, 2453635748, 2870763221, 3624381080, 310598401, 607225278, 1426881987, 1925078388, 2162078206, 2614888103, 3248222580, 3835390401, 4022224774, 264347078, 604807628, 770255983, 1249150122, 1555081692, 1996064986, 2554220882, 2821834349, 2952996808, 3210313671, 3336571891, 3584528711, 113926993, 338241895, 666307205, 773529912, 1294757372, 1396182291, 1695183700, 1986661051, 2177026350, 2456956037, 2730485921, 2820302411, 3259730800, 3345764771, 3516065817, 3600352804, 4094571909, 275423344, 430227734, 506948616, 659060556, 883997877, 958139571, 1322822218, 1537002063, 1747873779, 1955562222, 2024104815, 2227730452, 2361852424, 2428436474, 2756734187, 3204031479, 3329325298]
/-- The state's eight words. -/
structure St where
  a : Int
  b : Int
  c : Int
  d : Int
  e : Int
  f : Int
  g : Int
  h : Int
def St.l (s : St) : List Int := [s.a, s.b, s.c, s.d, s.e, s.f, s.g, s.h]
def chO (e f g : Int) : Int := Go.bits .xor .u32 (Go.bits .and .u32 e f) (Go.bits .and .u32 (4294967295 - e) g)
def maj (a b c : Int) : Int := x3 (Go.bits .and .u32 a b) (Go.bits .and .u32 a c) (Go.bits .and .u32 b c)
def pR (s : St) (k w : Int) : Int := add32 (add32 (add32 (add32 s.h (x3 (rrI s.e 6) (rrI s.e 11) (rrI s.e 25))) (chO s.e s.f s.g)) k) w
def qR (s : St) : Int := add32 (x3 (rrI s.a 2) (rrI s.a 13) (rrI s.a 22)) (maj s.a s.b s.c)
def round (s : St) (k w : Int) : St := ⟨add32 (pR s k w) (qR s), s.a, s.b, s.c, add32 s.d (pR s k w), s.e, s.f, s.g⟩
def rounds (ws : List Int) : Nat → St → St
  | 0, s => s
  | n + 1, s => round (rounds ws n s) (rd kT (n : Int)) (rd ws (n : Int))
/-- The step. -/
def stepS (s : St) (b : List Int) : St :=
  let v := rounds (wds b) 64 s
  ⟨add32 s.a v.a, add32 s.b v.b, add32 s.c v.c, add32 s.d v.d, add32 s.e v.e, add32 s.f v.f, add32 s.g v.g, add32 s.h v.h⟩
theorem ext_len : ∀ (n : Nat) (ws : List Int), (ext n ws).length = ws.length + n
  | 0, ws => rfl
  | n + 1, ws => by
    unfold ext
    rw [ext_len n]
    simp
    omega
theorem wds_len (b : List Int) : (wds b).length = 64 := by
  unfold wds
  rw [ext_len]
  simp [first16]
end Go.Proofs.YtefnpecncacepaaDoor.Hand
