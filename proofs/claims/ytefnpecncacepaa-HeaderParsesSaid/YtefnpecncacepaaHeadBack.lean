/- A header comes back from its bytes: the plain law. -/
import Derived.Test.YtefnpecncacepaaProg
import Derived.Below
import Derived.Deep.Draws
import Derived.Deep.AppendLies
import Derived.Maps.AppendAt
import Derived.OwnWalk
import Derived.Laws.BytesArg
import Derived.Laws.MakeOwn
import Derived.Laws.OwnMore
import Derived.Deep.OwnRows
import Derived.Tactics
import Derived.Lib.ConvBytes
import Derived.Laws.Slices
import Derived.WalkKit
import Derived.KernelRfl
import Derived.RowKit3
import Derived.Deep.LoopGhost
import Derived.Deep.QuietTactic
import Derived.BigQuiet
import Derived.WideLaws
import Derived.Deep.DeepCutAuto
import Derived.Deep.CutBlock
import Derived.Deep.RegionHeld3
import Derived.Laws.Rows
import Derived.Lib.AppendStr
import Derived.ArgAppend
import Derived.Laws.IdiomCopy
import Derived.OrdersHeld
import Derived.Laws.BitsLemmas
import Derived.RowKit
import Derived.StillTailTactics
import Derived.Test.YtefnpecncacepaaWWords
import Derived.Test.YtefnpecncacepaaWLast
import Derived.Test.YtefnpecncacepaaWMore
import Derived.Lib.Hide
import Derived.Test.YtefnpecncacepaaParse
import Derived.Test.YtefnpecncacepaaApartLaw
namespace Go.Proofs.Ytefnpecncacepaa.Hand
open Go Go.RowKit Go.Proofs.Ytefnpecncacepaa.Plain Go.Proofs.Ytefnpecncacepaa.PAll Go.Proofs.YtefnpecncacepaaW.PrintWords Go.Proofs.YtefnpecncacepaaW.PrintLast Go.Proofs.YtefnpecncacepaaW.PrintMore
set_option linter.unusedVariables false
theorem takeR_at {bs pre x post : List Int} {p k : Nat} (hb : bs = pre ++ (x ++ post)) (hp : pre.length = p) (hx : x.length = k) : takeR bs p 0 (k : Int) = (x, p + k, 0) := by
  subst hb hp hx
  unfold takeR
  rw [if_neg (by simp), if_neg (by simp only [List.length_append]; omega)]
  simp
theorem head_back {v : Int} {p r : List Int} {t b n : Int} (h : HWf v p r t b n) :
    headE (headB v p r t b n) = 0 ∧ (h1R (headB v p r t b n)).1 % 4294967296 = v ∧ (h2R (headB v p r t b n)).1 = p ∧ (h3R (headB v p r t b n)).1 = r ∧ (h4R (headB v p r t b n)).1 % 4294967296 = t ∧ (h5R (headB v p r t b n)).1 % 4294967296 = b ∧ (h6R (headB v p r t b n)).1 % 4294967296 = n := by
  have hlen := headB_len v p r t b n h.1 h.2.1
  obtain ⟨hp, hr, hv, ht, hb, hn, _, _⟩ := h
  have hd : ∀ x : Int, 0 ≤ x ∧ x < 4294967296 → val (digs 4 x.toNat) % 4294967296 = x := fun x hx => by
    rw [val_digs]
    have e : (256 : Nat) ^ 4 = 4294967296 := by decide
    rw [e]
    omega
  obtain ⟨bs, hbs⟩ : ∃ l, headB v p r t b n = l := ⟨_, rfl⟩
  have e0 : bs = [] ++ (digs 4 v.toNat ++ (p ++ r ++ digs 4 t.toNat ++ digs 4 b.toNat ++ digs 4 n.toNat)) := by rw [← hbs]; simp [headB]
  have e1 : bs = digs 4 v.toNat ++ (p ++ (r ++ digs 4 t.toNat ++ digs 4 b.toNat ++ digs 4 n.toNat)) := by rw [← hbs]; simp [headB]
  have e2 : bs = (digs 4 v.toNat ++ p) ++ (r ++ (digs 4 t.toNat ++ digs 4 b.toNat ++ digs 4 n.toNat)) := by rw [← hbs]; simp [headB]
  have e3 : bs = (digs 4 v.toNat ++ p ++ r) ++ (digs 4 t.toNat ++ (digs 4 b.toNat ++ digs 4 n.toNat)) := by rw [← hbs]; simp [headB]
  have e4 : bs = (digs 4 v.toNat ++ p ++ r ++ digs 4 t.toNat) ++ (digs 4 b.toNat ++ digs 4 n.toNat) := by rw [← hbs]; simp [headB]
  have e5 : bs = (digs 4 v.toNat ++ p ++ r ++ digs 4 t.toNat ++ digs 4 b.toNat) ++ (digs 4 n.toNat ++ []) := by rw [← hbs]; simp [headB]
  rw [hbs] at hlen ⊢
  have k1 := takeR_at (p := 0) (k := 4) e0 rfl (digs_length 4 _)
  have k2 := takeR_at (p := 4) (k := 32) e1 (digs_length 4 _) hp
  have k3 := takeR_at (p := 36) (k := 32) e2 (by rw [List.length_append, digs_length, hp]) hr
  have k4 := takeR_at (p := 68) (k := 4) e3 (by simp only [List.length_append, digs_length, hp, hr]) (digs_length 4 _)
  have k5 := takeR_at (p := 72) (k := 4) e4 (by simp only [List.length_append, digs_length, hp, hr]) (digs_length 4 _)
  have k6 := takeR_at (p := 76) (k := 4) e5 (by simp only [List.length_append, digs_length, hp, hr]) (digs_length 4 _)
  have r1 : h1R bs = (val (digs 4 v.toNat), 4, 0) := by
    unfold h1R numR
    rw [wid4h, k1]
  have r2 : h2R bs = (p, 36, 0) := by
    unfold h2R hashR
    rw [r1]
    simp only
    rw [show (32 : Int) = ((32 : Nat) : Int) from rfl, k2]
    simp only
    rw [if_pos hp]
  have r3 : h3R bs = (r, 68, 0) := by
    unfold h3R hashR
    rw [r2]
    simp only
    rw [show (32 : Int) = ((32 : Nat) : Int) from rfl, k3]
    simp only
    rw [if_pos hr]
  have r4 : h4R bs = (val (digs 4 t.toNat), 72, 0) := by
    unfold h4R numR
    rw [r3, wid4h]
    simp only
    rw [k4]
  have r5 : h5R bs = (val (digs 4 b.toNat), 76, 0) := by
    unfold h5R numR
    rw [r4, wid4h]
    simp only
    rw [k5]
  have r6 : h6R bs = (val (digs 4 n.toNat), 80, 0) := by
    unfold h6R numR
    rw [r5, wid4h]
    simp only
    rw [k6]
  refine ⟨?_, by rw [r1]; exact hd v hv, by rw [r2], by rw [r3], by rw [r4]; exact hd t ht, by rw [r5]; exact hd b hb, by rw [r6]; exact hd n hn⟩
  unfold headE endR
  rw [r6]
  simp [hlen]
end Go.Proofs.Ytefnpecncacepaa.Hand
