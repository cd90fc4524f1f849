/- What is parsed has just these bytes: plain. -/
import Derived.Test.YtpjkhecefppamaaProg
import Derived.Below
import Derived.Deep.Draws
import Derived.Deep.AppendLies
import Derived.Maps.AppendAt
import Derived.OwnWalk
import Derived.Laws.BytesArg
import Derived.Laws.MakeOwn
import Derived.Laws.OwnMore
import Derived.Deep.OwnRows
import Derived.Tactics
import Derived.Lib.ConvBytes
import Derived.Laws.Slices
import Derived.WalkKit
import Derived.KernelRfl
import Derived.RowKit3
import Derived.Deep.LoopGhost
import Derived.Deep.QuietTactic
import Derived.BigQuiet
import Derived.WideLaws
import Derived.Deep.DeepCutAuto
import Derived.Deep.CutBlock
import Derived.Deep.RegionHeld3
import Derived.Laws.Rows
import Derived.Lib.AppendStr
import Derived.ArgAppend
import Derived.Laws.IdiomCopy
import Derived.OrdersHeld
import Derived.Laws.BitsLemmas
import Derived.RowKit
import Derived.StillTailTactics
import Derived.Test.YtpjkhecefppamaaWWords
import Derived.Test.YtpjkhecefppamaaWLast
import Derived.Test.YtpjkhecefppamaaWMore
import Derived.Lib.Hide
import Derived.Test.YtpjkhecefppamaaParsePlain
import Derived.Test.YtpjkhecefppamaaRefAt
namespace Go.Proofs.Ytpjkhecefppamaa.Hand
open Go Go.RowKit Go.Proofs.Ytpjkhecefppamaa.Plain Go.Proofs.Ytpjkhecefppamaa.PAll Go.Proofs.YtpjkhecefppamaaW.PrintWords Go.Proofs.YtpjkhecefppamaaW.PrintLast Go.Proofs.YtpjkhecefppamaaW.PrintMore
set_option linter.unusedVariables false
set_option linter.unusedSimpArgs false
theorem take_back {bs : List Int} {p : Nat} {e n : Int} (hp : p ≤ bs.length) (hn : 0 ≤ n) (h : (takeR bs p e n).2.2 = 0) : e = 0 ∧ bs.drop p = (takeR bs p e n).1 ++ bs.drop (takeR bs p e n).2.1 ∧ ((takeR bs p e n).1.length : Int) = n := by
  unfold takeR at h ⊢
  by_cases he : e = 0
  · subst he
    rw [if_neg (by simp)] at h ⊢
    by_cases hl : (bs.length : Int) - p < n
    · rw [if_pos hl] at h
      simp at h
    · rw [if_neg hl]
      refine ⟨rfl, ?_, ?_⟩
      · rw [← List.drop_drop]
        exact (List.take_append_drop n.toNat (bs.drop p)).symm
      · rw [List.length_take, List.length_drop]
        omega
  · rw [if_pos he] at h
    exact absurd h he
theorem num_back {bs : List Int} (hb : ∀ x ∈ bs, 0 ≤ x ∧ x < 256) {p : Nat} {e a : Int} (hp : p ≤ bs.length) (h : (numR bs p e a).2.2 = 0) : e = 0 ∧ bs.drop p = digs (wid a) (numR bs p e a).1.toNat ++ bs.drop (numR bs p e a).2.1 := by
  have h1 := take_back hp (n := (wid a : Nat)) (by omega) h
  refine ⟨h1.1, ?_⟩
  have h2 := digs_val (takeR bs p e (wid a : Nat)).1 (takeR_bytes hb p e _)
  rw [show (takeR bs p e (wid a : Nat)).1.length = wid a by have := h1.2.2; omega] at h2
  show bs.drop p = digs (wid a) (val (takeR bs p e (wid a : Nat)).1).toNat ++ _
  rw [h2]
  exact h1.2.1
theorem var_back {bs : List Int} (hb : ∀ x ∈ bs, 0 ≤ x ∧ x < 256) {p : Nat} {e most : Int} (hp : p ≤ bs.length) (h : (varR bs p e most).2.2 = 0) : e = 0 ∧ bs.drop p = varB (varR bs p e most).1.toNat ++ bs.drop (varR bs p e most).2.1 ∧ 0 ≤ (varR bs p e most).1 ∧ (varR bs p e most).1 ≤ most := by
  by_cases he : e = 0
  · subst he
    have hc := varR_count bs p hp most
    rw [hc] at h ⊢
    simp only at h
    have hk := count_ok (s := bs.drop p) (fun x hx => hb x (List.mem_of_mem_drop hx)) (most := most) (n := (countS (bs.drop p) most).1) (k := (countS (bs.drop p) most).2.1) (by rw [← h])
    refine ⟨rfl, ?_, hk.2.2.1, hk.2.2.2.1⟩
    simp only
    rw [hk.1, ← List.drop_drop]
    exact (List.take_append_drop _ _).symm
  · rw [varR_e he] at h
    exact absurd h he
theorem text_back {bs : List Int} (hb : ∀ x ∈ bs, 0 ≤ x ∧ x < 256) {p : Nat} {e : Int} (hp : p ≤ bs.length) (h : (textR bs p e 64).2.2 = 0) : e = 0 ∧ bs.drop p = varB (textR bs p e 64).1.length ++ ((textR bs p e 64).1 ++ bs.drop (textR bs p e 64).2.1) ∧ (textR bs p e 64).1.length ≤ 64 := by
  unfold textR text2 at h ⊢
  rw [show mx 64 0 = 64 from rfl] at h ⊢
  by_cases hx : (takeR bs (varR bs p e 64).2.1 (varR bs p e 64).2.2 (varR bs p e 64).1).2.2 = 0
  · rw [if_neg (fun h2 => h2 hx)]
    have hv : (varR bs p e 64).2.2 = 0 := by
      by_cases h2 : (varR bs p e 64).2.2 = 0
      · exact h2
      · unfold takeR at hx
        rw [if_pos h2] at hx
        exact hx
    obtain ⟨v1, v2, v3, v4⟩ := var_back hb hp hv
    obtain ⟨t1, t2, t3⟩ := take_back (varR_le hp _ _) v3 hx
    refine ⟨v1, ?_, by omega⟩
    rw [v2, t2, show (varR bs p e 64).1.toNat = (takeR bs (varR bs p e 64).2.1 (varR bs p e 64).2.2 (varR bs p e 64).1).1.length by omega]
  · rw [if_pos hx] at h
    exact absurd h hx
theorem outs_back {bs : List Int} (hb : ∀ x ∈ bs, 0 ≤ x ∧ x < 256) : ∀ (n p : Nat) (e : Int), p ≤ bs.length → (outsR bs n p e).2.2 = 0 → e = 0 ∧ bs.drop p = (outsR bs n p e).1.flatMap outB ++ bs.drop (outsR bs n p e).2.1 ∧ ∀ o ∈ (outsR bs n p e).1, o.f1.length ≤ 64
  | 0, p, e, hp, h => ⟨h, by simp [outsR], fun o ho => by simp [outsR] at ho⟩
  | n + 1, p, e, hp, h => by
    simp only [outsR] at h ⊢
    obtain ⟨r1, r2, r3⟩ := outs_back hb n _ _ (textR_le (numR_le hp _ _) _ _) h
    obtain ⟨t1, t2, t3⟩ := text_back hb (numR_le hp _ _) r1
    obtain ⟨n1, n2⟩ := num_back hb hp t1
    refine ⟨n1, ?_, fun o ho => ?_⟩
    · rw [n2, t2, r2]
      simp only [List.flatMap_cons, outB, wid8, List.append_assoc]
    · rcases List.mem_cons.mp ho with rfl | ho
      · exact t3
      · exact r3 o ho
theorem parse_back {bs : List Int} (hb : ∀ x ∈ bs, 0 ≤ x ∧ x < 256) (h : parseE bs = 0) : bytesE (parseS bs) (parseO bs) = 0 ∧ bytesV (parseS bs) (parseO bs) = bs ∧ (parseO bs).length ≤ 8 ∧ (∀ o ∈ parseO bs, o.f1.length ≤ 64) := by
  unfold parseE at h
  by_cases hbad : badR bs = true
  · rw [if_pos hbad] at h
    exact absurd h (by decide)
  · rw [if_neg hbad] at h
    have hS : parseS bs = (sR bs).1 := by unfold parseS; rw [if_neg hbad, if_pos h]
    have hO : parseO bs = (oR bs).1 := by unfold parseO; rw [if_neg hbad, if_pos h]
    rw [hS, hO]
    have h0 : (oR bs).2.2 = 0 ∧ bs.length ≤ (oR bs).2.1 := by
      unfold endE endR at h
      by_cases h1 : (oR bs).2.2 = 0 ∧ (oR bs).2.1 < bs.length
      · rw [if_pos h1] at h
        exact absurd h (by decide)
      · rw [if_neg h1] at h
        exact ⟨h, by omega⟩
    obtain ⟨o1, o2, o3⟩ := outs_back hb (nR bs).1.toNat (nR bs).2.1 (nR bs).2.2 (nR_pl bs) h0.1
    obtain ⟨n1, n2, n3, n4⟩ := var_back hb (sR_le bs) o1
    obtain ⟨s1, s2⟩ := num_back hb (aR_le bs) n1
    obtain ⟨a1, a2⟩ := num_back hb (p := 0) (e := 0) (a := 1) (Nat.zero_le _) s1
    have hlen : (oR bs).1.length = (nR bs).1.toNat := outsR_len _ _ _
    have ha : (aR bs).1 = 1 := by
      by_cases h1 : (aR bs).1 = 1
      · exact h1
      · exact absurd (by unfold badR; rw [decide_eq_true (show (aR bs).2.2 = 0 from s1), decide_eq_true h1]; simp) hbad
    have h64 : bs.length ≠ 64 := fun h1 => hbad (by unfold badR; rw [decide_eq_true h1]; rfl)
    have htx : txB (sR bs).1 (oR bs).1 = bs := by
      have e0 : bs = bs.drop 0 := rfl
      conv => rhs; rw [e0, a2]
      rw [show (numR bs 0 0 1).1 = 1 from ha, show (numR bs 0 0 1).2.1 = (aR bs).2.1 from rfl, s2]
      rw [show numR bs (aR bs).2.1 (aR bs).2.2 8 = sR bs from rfl, n2]
      rw [show varR bs (sR bs).2.1 (sR bs).2.2 8 = nR bs from rfl, o2]
      rw [show outsR bs (nR bs).1.toNat (nR bs).2.1 (nR bs).2.2 = oR bs from rfl, List.drop_eq_nil_of_le h0.2, ← hlen]
      simp [txB, headB, wid1, wid8, List.append_assoc]
    have hE : bytesE (sR bs).1 (oR bs).1 = 0 := by
      unfold bytesE
      have n5 : (nR bs).1 ≤ 8 := n4
      have o4 : ∀ o ∈ (oR bs).1, o.f1.length ≤ 64 := o3
      rw [if_neg (by omega), longs_not o4, htx, if_neg (by decide), if_neg h64]
    have n5 : (nR bs).1 ≤ 8 := n4
    refine ⟨hE, ?_, by omega, o3⟩
    unfold bytesV
    rw [if_pos hE, htx]
/-- A list is the same as itself. -/
theorem same_loop (xs : List S56) (s : Int) (hn : xs.length ≤ 1000000) : ∀ (m i k : Nat), i + m = xs.length → mastheadref14_Same.l0 (m + 1 + k) (xs.length : Int) i s xs s xs = some true
  | 0, i, k, h => by
    rw [show 0 + 1 + k = k + 1 by omega]
    unfold mastheadref14_Same.l0
    rw [if_neg (by omega)]
  | m + 1, i, k, h => by
    rw [show m + 1 + 1 + k = (m + 1 + k) + 1 by omega]
    unfold mastheadref14_Same.l0
    rw [if_pos (by omega), if_pos (by omega), if_pos (by omega), if_pos (by omega), if_neg (by simp), show wrap64 ((i : Int) + 1) = ((i + 1 : Nat) : Int) from (wrap64_id (by omega) (by omega)).trans (by simp)]
    exact same_loop xs s hn m (i + 1) k (by omega)
theorem same_f (xs : List S56) (s : Int) (hn : xs.length ≤ 1000000) : mastheadref14_Same.f (xs.length + 2) s xs s xs = some true := by
  unfold mastheadref14_Same.f
  rw [if_pos rfl]
  show (if ((xs.length : Int) != (xs.length : Int)) = true then some false else mastheadref14_Same.l0 (xs.length + 1) (xs.length : Int) 0 s xs s xs) = some true
  rw [if_neg (by simp)]
  exact same_loop xs s hn xs.length 0 0 (by omega)
theorem outsR_nn {bs : List Int} (hb : ∀ x ∈ bs, 0 ≤ x ∧ x < 256) : ∀ (n p : Nat) (e : Int), ∀ o ∈ (outsR bs n p e).1, 0 ≤ o.f0
  | 0, p, e, o, ho => by simp [outsR] at ho
  | n + 1, p, e, o, ho => by
    simp only [outsR] at ho
    rcases List.mem_cons.mp ho with rfl | ho
    · exact (numR_u64 hb p e 8).1
    · exact outsR_nn hb n _ _ o ho
theorem parse_nn {bs : List Int} (hb : ∀ x ∈ bs, 0 ≤ x ∧ x < 256) : 0 ≤ parseS bs ∧ (∀ o ∈ parseO bs, 0 ≤ o.f0) ∧ (parseO bs).length ≤ 8 := by
  have h1 := (numR_u64 hb (aR bs).2.1 (aR bs).2.2 8).1
  have h2 := outsR_nn hb (nR bs).1.toNat (nR bs).2.1 (nR bs).2.2
  have h3 := nR_le hb
  have h4 : (oR bs).1.length = (nR bs).1.toNat := outsR_len _ _ _
  unfold parseS parseO
  refine ⟨?_, ?_, ?_⟩
  · split
    · decide
    · split
      · exact h1
      · decide
  · split
    · intro o ho; simp at ho
    · split
      · exact h2
      · intro o ho; simp at ho
  · split
    · simp
    · split
      · omega
      · simp
end Go.Proofs.Ytpjkhecefppamaa.Hand
