/- The hasher: what it computes. -/
import Derived.Test.YtefnpecncacepaaDoorProg
import Derived.Below
import Derived.Deep.Draws
import Derived.Deep.AppendLies
import Derived.Maps.AppendAt
import Derived.OwnWalk
import Derived.Laws.BytesArg
import Derived.Laws.MakeOwn
import Derived.Laws.OwnMore
import Derived.Deep.OwnRows
import Derived.Tactics
import Derived.Lib.ConvBytes
import Derived.Laws.Slices
import Derived.WalkKit
import Derived.KernelRfl
import Derived.RowKit3
import Derived.Deep.LoopGhost
import Derived.Deep.QuietTactic
import Derived.BigQuiet
import Derived.WideLaws
import Derived.Deep.DeepCutAuto
import Derived.Deep.CutBlock
import Derived.Deep.RegionHeld3
import Derived.Laws.Rows
import Derived.Lib.AppendStr
import Derived.ArgAppend
import Derived.Laws.IdiomCopy
import Derived.OrdersHeld
import Derived.Laws.BitsLemmas
import Derived.RowKit
import Derived.StillTailTactics
import Derived.Test.YtefnpecncacepaaDoorWWords
import Derived.Test.YtefnpecncacepaaDoorWLast
import Derived.Test.YtefnpecncacepaaDoorWMore
import Derived.Lib.Hide
import Derived.Test.YtefnpecncacepaaDoorBlock
namespace Go.Proofs.YtefnpecncacepaaDoor.Hand
open Go Go.RowKit Go.Proofs.YtefnpecncacepaaDoor.Plain Go.Proofs.YtefnpecncacepaaDoor.PAll Go.Proofs.YtefnpecncacepaaDoorW.PrintWords Go.Proofs.YtefnpecncacepaaDoorW.PrintLast Go.Proofs.YtefnpecncacepaaDoorW.PrintMore
set_option linter.unusedVariables false
set_option linter.unusedSimpArgs false
set_option maxRecDepth 100000
def F0 : St := ⟨1779033703, 3144134277, 1013904242, 2773480762, 1359893119, 2600822924, 528734635, 1541459225⟩
/-- The state behind so many blocks of a text. -/
def stN (bs : List Int) : Nat → St
  | 0 => F0
  | n + 1 => stepS (stN bs n) ((bs.drop (64 * n)).take 64)
def stOf (bs : List Int) : St := stN bs (bs.length / 64)
theorem stN_app (bs ys : List Int) : ∀ n, 64 * n ≤ bs.length → stN (bs ++ ys) n = stN bs n
  | 0, _ => rfl
  | n + 1, h => by
    unfold stN
    rw [stN_app bs ys n (by omega), List.drop_append_of_le_length (by omega), List.take_append_of_le_length (by simp; omega)]
/-- What the block holds behind a text: its last bytes, and whatever lay there. -/
def IsBlk (bs blk : List Int) : Prop := blk.length = 64 ∧ (∀ x ∈ blk, 0 ≤ x ∧ x < 256) ∧ blk.take (bs.length % 64) = bs.drop (64 * (bs.length / 64))
def putB (blk : List Int) (o : Nat) (zs : List Int) : List Int := blk.take o ++ (zs ++ blk.drop (o + zs.length))
theorem putB_len {blk zs : List Int} {o : Nat} (h : blk.length = 64) (ho : o + zs.length ≤ 64) : (putB blk o zs).length = 64 := by
  simp [putB]
  omega
theorem putB_bytes {blk zs : List Int} {o : Nat} (h : ∀ x ∈ blk, 0 ≤ x ∧ x < 256) (hz : ∀ x ∈ zs, 0 ≤ x ∧ x < 256) : ∀ x ∈ putB blk o zs, 0 ≤ x ∧ x < 256 := by
  intro x hx
  simp only [putB, List.mem_append] at hx
  rcases hx with hx | hx | hx
  · exact h x (List.mem_of_mem_take hx)
  · exact hz x hx
  · exact h x (List.mem_of_mem_drop hx)
/-- Bytes that don't fill the block. -/
theorem blk_part {L blk zs : List Int} (h : IsBlk L blk) (hz : ∀ x ∈ zs, 0 ≤ x ∧ x < 256) (hk : L.length % 64 + zs.length < 64) : IsBlk (L ++ zs) (putB blk (L.length % 64) zs) ∧ stOf (L ++ zs) = stOf L := by
  obtain ⟨h1, h2, h3⟩ := h
  have hl : (L ++ zs).length = L.length + zs.length := List.length_append
  have e1 : (L ++ zs).length / 64 = L.length / 64 := by omega
  have e2 : (L ++ zs).length % 64 = L.length % 64 + zs.length := by omega
  refine ⟨⟨putB_len h1 (by omega), putB_bytes h2 hz, ?_⟩, ?_⟩
  · rw [e1, e2]
    unfold putB
    rw [← List.append_assoc, List.take_append_of_le_length (by simp; omega), List.take_of_length_le (by simp; omega), h3, List.drop_append_of_le_length (by omega)]
  · unfold stOf
    rw [e1, stN_app _ _ _ (by omega)]
/-- Bytes that fill it. -/
theorem blk_full {L blk zs : List Int} (h : IsBlk L blk) (hz : ∀ x ∈ zs, 0 ≤ x ∧ x < 256) (hk : L.length % 64 + zs.length = 64) : IsBlk (L ++ zs) (putB blk (L.length % 64) zs) ∧ stOf (L ++ zs) = stepS (stOf L) (putB blk (L.length % 64) zs) := by
  obtain ⟨h1, h2, h3⟩ := h
  have hl : (L ++ zs).length = L.length + zs.length := List.length_append
  have e1 : (L ++ zs).length / 64 = L.length / 64 + 1 := by omega
  have e2 : (L ++ zs).length % 64 = 0 := by omega
  refine ⟨⟨putB_len h1 (by omega), putB_bytes h2 hz, ?_⟩, ?_⟩
  · rw [e1, e2, List.take_zero, List.drop_of_length_le (by rw [hl]; omega)]
  · unfold stOf
    rw [e1]
    show stepS (stN (L ++ zs) (L.length / 64)) _ = _
    rw [stN_app _ _ _ (by omega)]
    congr 1
    rw [List.drop_append_of_le_length (by omega), ← h3]
    unfold putB
    rw [List.take_of_length_le (by simp; omega), List.drop_of_length_le (by omega), List.append_nil]
/-- Where the end begins: how many nulls. -/
def padZ (n : Nat) : Nat := (119 - n % 64) % 64
def great (d n : Nat) : List Int := (digs d n).reverse
def padB (bs : List Int) : List Int := bs ++ (128 :: List.replicate (padZ bs.length) 0) ++ great 8 (8 * bs.length)
/-- The eight words as bytes. -/
def outB (s : St) : List Int := great 4 s.a.toNat ++ great 4 s.b.toNat ++ great 4 s.c.toNat ++ great 4 s.d.toNat ++ great 4 s.e.toNat ++ great 4 s.f.toNat ++ great 4 s.g.toNat ++ great 4 s.h.toNat
/-- A text's sum. -/
def sumP (bs : List Int) : List Int := outB (stOf (padB bs))
def twiceP (bs : List Int) : List Int := sumP (sumP bs)
theorem great_len (d n : Nat) : (great d n).length = d := by simp [great, digs_length]
theorem great_bytes (d n : Nat) : ∀ x ∈ great d n, 0 ≤ x ∧ x < 256 := fun x hx => digs_bytes d n x (by simpa [great] using hx)
theorem outB_len (s : St) : (outB s).length = 32 := by simp [outB, great_len]
theorem sumP_len (bs : List Int) : (sumP bs).length = 32 := outB_len _
theorem outB_bytes (s : St) : ∀ x ∈ outB s, 0 ≤ x ∧ x < 256 := by
  intro x hx
  simp only [outB, List.mem_append] at hx
  rcases hx with ((((((hx | hx) | hx) | hx) | hx) | hx) | hx) | hx <;> exact great_bytes _ _ x hx
theorem sumP_bytes (bs : List Int) : ∀ x ∈ sumP bs, 0 ≤ x ∧ x < 256 := outB_bytes _
theorem padB_len (bs : List Int) : (padB bs).length % 64 = 0 := by
  simp [padB, great_len, padZ]
  omega
theorem F0_wd : F0.wd := by unfold St.wd Wd F0; decide
theorem stepS_wd (s : St) (b : List Int) : (stepS s b).wd := ⟨⟨add32_wd _ _, add32_wd _ _, add32_wd _ _, add32_wd _ _⟩, ⟨add32_wd _ _, add32_wd _ _, add32_wd _ _, add32_wd _ _⟩⟩
theorem stN_wd (bs : List Int) : ∀ n, (stN bs n).wd
  | 0 => F0_wd
  | n + 1 => stepS_wd _ _
theorem stOf_wd (bs : List Int) : (stOf bs).wd := stN_wd _ _
theorem padB_bytes {bs : List Int} (h : ∀ x ∈ bs, 0 ≤ x ∧ x < 256) : ∀ x ∈ padB bs, 0 ≤ x ∧ x < 256 := by
  intro x hx
  simp only [padB, List.mem_append, List.mem_cons, List.mem_replicate] at hx
  rcases hx with (hx | rfl | ⟨_, rfl⟩) | hx
  · exact h x hx
  · decide
  · decide
  · exact great_bytes _ _ x hx
end Go.Proofs.YtefnpecncacepaaDoor.Hand
