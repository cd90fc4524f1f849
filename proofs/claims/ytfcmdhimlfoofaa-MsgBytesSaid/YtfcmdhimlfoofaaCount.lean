/- A count's spelling: what is taken is its only one; what is put is taken. -/
import Derived.Test.YtfcmdhimlfoofaaCodecPlain
import Derived.Test.YtfcmdhimlfoofaaWriter
namespace Go.Proofs.Ytfcmdhimlfoofaa.Hand
open Go Go.RowKit Go.Proofs.Ytfcmdhimlfoofaa.Plain Go.Proofs.Ytfcmdhimlfoofaa.PAll Go.Proofs.YtfcmdhimlfoofaaW.PrintWords Go.Proofs.YtfcmdhimlfoofaaW.PrintLast Go.Proofs.YtfcmdhimlfoofaaW.PrintMore
set_option linter.unusedVariables false
set_option linter.unusedSimpArgs false
theorem digs_val : ∀ (l : List Int), (∀ x ∈ l, 0 ≤ x ∧ x < 256) → digs l.length (val l).toNat = l
  | [], _ => rfl
  | x :: l, h => by
    have h1 := h x (by simp)
    have h2 := val_bounds l (fun y hy => h y (by simp [hy]))
    have ih := digs_val l (fun y hy => h y (by simp [hy]))
    simp only [List.length_cons, digs, val]
    have e1 : (x + 256 * val l).toNat % 256 = x.toNat := by omega
    have e2 : (x + 256 * val l).toNat / 256 = (val l).toNat := by omega
    rw [e1, e2, ih, Int.toNat_of_nonneg h1.1]
theorem wid1 : wid 1 = 1 := by decide
theorem wid2 : wid 2 = 2 := by decide
theorem wid4 : wid 4 = 4 := by decide
theorem wid8 : wid 8 = 8 := by decide
/-- How many bytes stand behind a count's first one; the least number that they may be. -/
def wof (b : Int) : Nat := if b = 253 then 2 else if b = 254 then 4 else if b = 255 then 8 else 0
def lof (b : Int) : Int := if b = 253 then 253 else if b = 254 then 65536 else if b = 255 then 4294967296 else 0
def cnum (b : Int) (t : List Int) : Int := if wof b = 0 then b else val (t.take (wof b))
/-- A count at a text's front: its number, how many bytes it is, the error. -/
def countS (s : List Int) (most : Int) : Int × Nat × Int :=
  match s with
  | [] => (0, 0, 2)
  | b :: t => if t.length < wof b then (0, 0, 2) else if cnum b t < lof b then (0, 0, 3) else if most < cnum b t then (0, 0, 4) else (cnum b t, 1 + wof b, 0)
theorem takeR_at (bs : List Int) (p : Nat) (hp : p ≤ bs.length) (k : Nat) : takeR bs p 0 (k : Nat) = if (bs.drop p).length < k then ([], p, 2) else ((bs.drop p).take k, p + k, 0) := by
  unfold takeR
  rw [if_neg (by decide), List.length_drop]
  by_cases h : bs.length - p < k
  · rw [if_pos (by omega), if_pos h]
  · rw [if_neg (by omega), if_neg h]
    simp
theorem numR_short {bs : List Int} {p : Nat} (hp : p ≤ bs.length) {a : Int} (h : (bs.drop p).length < wid a) : numR bs p 0 a = (0, p, 2) := by
  unfold numR
  rw [takeR_at bs p hp, if_pos h]
  rfl
theorem numR_long {bs : List Int} {p : Nat} (hp : p ≤ bs.length) {a : Int} (h : wid a ≤ (bs.drop p).length) : numR bs p 0 a = (val ((bs.drop p).take (wid a)), p + wid a, 0) := by
  unfold numR
  rw [takeR_at bs p hp, if_neg (by omega)]
theorem spell_step {bs : List Int} {p : Nat} {b : Int} {t : List Int} (h : bs.drop p = b :: t) (a : Int) :
    numR bs (p + 1) 0 a = if t.length < wid a then (0, p + 1, 2) else (val (t.take (wid a)), p + 1 + wid a, 0) := by
  have hl : p + 1 ≤ bs.length := by
    have := congrArg List.length h
    simp at this
    omega
  have hd : bs.drop (p + 1) = t := by rw [← List.drop_drop, h]; rfl
  by_cases hs : t.length < wid a
  · rw [if_pos hs, numR_short hl (by rw [hd]; exact hs)]
  · rw [if_neg hs, numR_long hl (by rw [hd]; omega), hd]
theorem var_mid (p k : Nat) (most v l : Int) : var2 p most (v, l, p + 1 + k, 0) = ((if v < l then ((0 : Int), 0, (3 : Int)) else if most < v then (0, 0, 4) else (v, 1 + k, 0)).1, p + (if v < l then ((0 : Int), 0, (3 : Int)) else if most < v then (0, 0, 4) else (v, 1 + k, 0)).2.1, (if v < l then ((0 : Int), 0, (3 : Int)) else if most < v then (0, 0, 4) else (v, 1 + k, 0)).2.2) := by
  unfold var2
  simp only
  rw [if_neg (by decide)]
  split
  · rfl
  · split
    · rfl
    · simp only [Prod.mk.injEq, true_and, and_true]
      omega
theorem varR_count (bs : List Int) (p : Nat) (hp : p ≤ bs.length) (most : Int) : varR bs p 0 most = ((countS (bs.drop p) most).1, p + (countS (bs.drop p) most).2.1, (countS (bs.drop p) most).2.2) := by
  unfold varR spellR
  cases hs : bs.drop p with
  | nil =>
    rw [numR_short hp (by rw [hs, wid1]; decide)]
    unfold spell2 var2
    simp [countS]
  | cons b t =>
    have hl : p + 1 ≤ bs.length := by
      have := congrArg List.length hs
      simp at this
      omega
    have h1 : numR bs p 0 1 = (b, p + 1, 0) := by
      rw [numR_long hp (by rw [hs, wid1]; simp), hs, wid1]
      simp [val]
    rw [h1]
    unfold spell2
    simp only
    have hst := spell_step hs
    by_cases t1 : b = 253
    · rw [if_pos t1, hst, wid2]
      have e1 : wof b = 2 := by unfold wof; rw [if_pos t1]
      have e2 : lof b = 253 := by unfold lof; rw [if_pos t1]
      have e3 : cnum b t = val (t.take 2) := by unfold cnum; rw [e1, if_neg (by decide)]
      simp only [countS, e1, e2, e3]
      by_cases ts : t.length < 2
      · rw [if_pos ts, if_pos ts]; simp [var2]
      · rw [if_neg ts, if_neg ts]
        exact var_mid p 2 most _ _
    · rw [if_neg t1]
      by_cases t2 : b = 254
      · rw [if_pos t2, hst, wid4]
        have e1 : wof b = 4 := by unfold wof; rw [if_neg t1, if_pos t2]
        have e2 : lof b = 65536 := by unfold lof; rw [if_neg t1, if_pos t2]
        have e3 : cnum b t = val (t.take 4) := by unfold cnum; rw [e1, if_neg (by decide)]
        simp only [countS, e1, e2, e3]
        by_cases ts : t.length < 4
        · rw [if_pos ts, if_pos ts]; simp [var2]
        · rw [if_neg ts, if_neg ts]
          exact var_mid p 4 most _ _
      · rw [if_neg t2]
        by_cases t3 : b = 255
        · rw [if_pos t3, hst, wid8]
          have e1 : wof b = 8 := by unfold wof; rw [if_neg t1, if_neg t2, if_pos t3]
          have e2 : lof b = 4294967296 := by unfold lof; rw [if_neg t1, if_neg t2, if_pos t3]
          have e3 : cnum b t = val (t.take 8) := by unfold cnum; rw [e1, if_neg (by decide)]
          simp only [countS, e1, e2, e3]
          by_cases ts : t.length < 8
          · rw [if_pos ts, if_pos ts]; simp [var2]
          · rw [if_neg ts, if_neg ts]
            exact var_mid p 8 most _ _
        · rw [if_neg t3]
          have e1 : wof b = 0 := by unfold wof; rw [if_neg t1, if_neg t2, if_neg t3]
          have e2 : lof b = 0 := by unfold lof; rw [if_neg t1, if_neg t2, if_neg t3]
          have e3 : cnum b t = b := by unfold cnum; rw [e1, if_pos rfl]
          simp only [countS, e1, e2, e3]
          rw [if_neg (by omega)]
          exact var_mid p 0 most _ _
theorem digs1 (n : Nat) (h : n < 256) : digs 1 n = [(n : Int)] := by
  simp [digs]
  omega
/-- A spelling that is not too short for its number is the number's. -/
theorem spelt {b : Int} {t : List Int} (hb : 0 ≤ b ∧ b < 256) (ht : ∀ x ∈ t, 0 ≤ x ∧ x < 256) (hl : wof b ≤ t.length) : (lof b ≤ cnum b t ↔ varB (cnum b t).toNat = (b :: t).take (1 + wof b)) ∧ 0 ≤ cnum b t ∧ cnum b t < 18446744073709551616 := by
  have htk : ∀ x ∈ t.take (wof b), 0 ≤ x ∧ x < 256 := fun x hx => ht x (List.mem_of_mem_take hx)
  have hlen : (t.take (wof b)).length = wof b := by rw [List.length_take]; omega
  have hvb := val_bounds _ htk
  have hdv := digs_val _ htk
  rw [hlen] at hvb hdv
  rw [show (b :: t).take (1 + wof b) = b :: t.take (wof b) from by rw [Nat.add_comm]; rfl]
  have hlv : ∀ n, (varB n).length = (if n < 253 then 1 else if n ≤ 65535 then 3 else if n ≤ 4294967295 then 5 else 9) := by
    intro n
    unfold varB
    repeat' split
    all_goals simp [digs_length]
  by_cases t1 : b = 253
  · have e1 : wof b = 2 := by unfold wof; rw [if_pos t1]
    have e2 : lof b = 253 := by unfold lof; rw [if_pos t1]
    unfold cnum
    rw [e1] at hdv hvb hlen ⊢
    rw [e2, if_neg (by decide)]
    generalize val (t.take 2) = v at hdv hvb ⊢
    have hv : v < 65536 := by have : (256 : Int) ^ 2 = 65536 := by decide
                              omega
    refine ⟨⟨fun h => ?_, fun h => ?_⟩, hvb.1, by omega⟩
    · unfold varB
      rw [if_neg (by omega), if_pos (by omega), hdv, digs1 253 (by decide), t1]
      rfl
    · have hh := congrArg List.length h
      rw [hlv, List.length_cons, hlen] at hh
      split at hh
      · omega
      · omega
  · by_cases t2 : b = 254
    · have e1 : wof b = 4 := by unfold wof; rw [if_neg t1, if_pos t2]
      have e2 : lof b = 65536 := by unfold lof; rw [if_neg t1, if_pos t2]
      unfold cnum
      rw [e1] at hdv hvb hlen ⊢
      rw [e2, if_neg (by decide)]
      generalize val (t.take 4) = v at hdv hvb ⊢
      have hv : v < 4294967296 := by have : (256 : Int) ^ 4 = 4294967296 := by decide
                                     omega
      refine ⟨⟨fun h => ?_, fun h => ?_⟩, hvb.1, by omega⟩
      · unfold varB
        rw [if_neg (by omega), if_neg (by omega), if_pos (by omega), hdv, digs1 254 (by decide), t2]
        rfl
      · have hh := congrArg List.length h
        rw [hlv, List.length_cons, hlen] at hh
        repeat' split at hh
        all_goals omega
    · by_cases t3 : b = 255
      · have e1 : wof b = 8 := by unfold wof; rw [if_neg t1, if_neg t2, if_pos t3]
        have e2 : lof b = 4294967296 := by unfold lof; rw [if_neg t1, if_neg t2, if_pos t3]
        unfold cnum
        rw [e1] at hdv hvb hlen ⊢
        rw [e2, if_neg (by decide)]
        generalize val (t.take 8) = v at hdv hvb ⊢
        have hv : v < 18446744073709551616 := by have : (256 : Int) ^ 8 = 18446744073709551616 := by decide
                                                 omega
        refine ⟨⟨fun h => ?_, fun h => ?_⟩, hvb.1, by omega⟩
        · unfold varB
          rw [if_neg (by omega), if_neg (by omega), if_neg (by omega), hdv, digs1 255 (by decide), t3]
          rfl
        · have hh := congrArg List.length h
          rw [hlv, List.length_cons, hlen] at hh
          repeat' split at hh
          all_goals omega
      · have e1 : wof b = 0 := by unfold wof; rw [if_neg t1, if_neg t2, if_neg t3]
        have e2 : lof b = 0 := by unfold lof; rw [if_neg t1, if_neg t2, if_neg t3]
        unfold cnum
        rw [e1, e2, if_pos rfl]
        refine ⟨⟨fun _ => ?_, fun _ => hb.1⟩, hb.1, by omega⟩
        unfold varB
        rw [if_pos (by omega), digs1 _ (by omega), Int.toNat_of_nonneg hb.1]
        rfl
theorem count_ok {s : List Int} (hs : ∀ x ∈ s, 0 ≤ x ∧ x < 256) {most n : Int} {k : Nat} (h : countS s most = (n, k, 0)) : varB n.toNat = s.take k ∧ k ≤ s.length ∧ 0 ≤ n ∧ n ≤ most ∧ n < 18446744073709551616 := by
  cases s with
  | nil => simp [countS] at h
  | cons b t =>
    have hb := hs b (by simp)
    have ht : ∀ x ∈ t, 0 ≤ x ∧ x < 256 := fun x hx => hs x (by simp [hx])
    simp only [countS] at h
    by_cases c1 : t.length < wof b
    · rw [if_pos c1] at h; simp at h
    · rw [if_neg c1] at h
      by_cases c2 : cnum b t < lof b
      · rw [if_pos c2] at h; simp at h
      · rw [if_neg c2] at h
        by_cases c3 : most < cnum b t
        · rw [if_pos c3] at h; simp at h
        · rw [if_neg c3] at h
          simp only [Prod.mk.injEq, and_true] at h
          obtain ⟨rfl, rfl⟩ := h
          obtain ⟨h1, h2, h3⟩ := spelt hb ht (by omega)
          exact ⟨h1.1 (by omega), by simp; omega, h2, by omega, h3⟩
theorem val_digs_lt (d n : Nat) (h : n < 256 ^ d) : val (digs d n) = (n : Int) := by rw [val_digs, Nat.mod_eq_of_lt h]
theorem count_back (n : Nat) (hn : n < 18446744073709551616) (rest : List Int) {most : Int} (hm : (n : Int) ≤ most) : countS (varB n ++ rest) most = ((n : Int), (varB n).length, 0) := by
  unfold varB
  by_cases c1 : n < 253
  · rw [if_pos c1, digs1 n (by omega)]
    have e1 : wof (n : Int) = 0 := by unfold wof; rw [if_neg (by omega), if_neg (by omega), if_neg (by omega)]
    have e2 : lof (n : Int) = 0 := by unfold lof; rw [if_neg (by omega), if_neg (by omega), if_neg (by omega)]
    simp only [List.cons_append, List.nil_append, countS, cnum, e1, e2]
    rw [if_neg (by omega), if_pos trivial, if_neg (by omega), if_neg (by omega)]
    rfl
  · rw [if_neg c1]
    have key : ∀ (b : Nat) (d : Nat) (l : Int), b < 256 → wof (b : Int) = d → 0 < d → lof (b : Int) = l → l ≤ n → n < 256 ^ d → countS ((digs 1 b ++ digs d n) ++ rest) most = ((n : Int), (digs 1 b ++ digs d n).length, 0) := by
      intro b d l hb h1 h0 h2 h3 h4
      rw [digs1 b hb]
      have e : (digs d n ++ rest).take d = digs d n := by rw [List.take_append_of_le_length (by rw [digs_length]; exact Nat.le_refl _), List.take_of_length_le (by rw [digs_length]; exact Nat.le_refl _)]
      have e3 : cnum (b : Int) (digs d n ++ rest) = (n : Int) := by
        unfold cnum
        rw [h1, if_neg (by omega), e, val_digs_lt d n h4]
      simp only [List.cons_append, List.nil_append, countS, h1, h2, e3]
      rw [if_neg (by simp [digs_length]), if_neg (by omega), if_neg (by omega)]
      simp [digs_length]
      omega
    by_cases c2 : n ≤ 65535
    · rw [if_pos c2]
      exact key 253 2 253 (by decide) (by decide) (by decide) (by decide) (by omega) (by have : 256 ^ 2 = 65536 := by decide
                                                                                         omega)
    · rw [if_neg c2]
      by_cases c3 : n ≤ 4294967295
      · rw [if_pos c3]
        exact key 254 4 65536 (by decide) (by decide) (by decide) (by decide) (by omega) (by have : 256 ^ 4 = 4294967296 := by decide
                                                                                             omega)
      · rw [if_neg c3]
        exact key 255 8 4294967296 (by decide) (by decide) (by decide) (by decide) (by omega) (by have : 256 ^ 8 = 18446744073709551616 := by decide
                                                                                                  omega)
end Go.Proofs.Ytfcmdhimlfoofaa.Hand
