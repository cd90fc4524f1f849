/- Several texts in one. -/
import Derived.Test.YtpjkhecefppamaaDoorCodecPlain
import Derived.Test.YtpjkhecefppamaaDoorWriter
import Derived.Test.YtpjkhecefppamaaDoorMAlln0
import Derived.Test.YtpjkhecefppamaaDoorMAlln1
import Derived.Test.YtpjkhecefppamaaDoorMAlln2
import Derived.Test.YtpjkhecefppamaaDoorMAlln3
import Derived.Test.YtpjkhecefppamaaDoorMAlln4
import Derived.Test.YtpjkhecefppamaaDoorMAlln5
import Derived.Test.YtpjkhecefppamaaDoorProg
import Derived.Below
import Derived.Deep.Draws
import Derived.Deep.AppendLies
import Derived.Maps.AppendAt
import Derived.OwnWalk
import Derived.Laws.BytesArg
import Derived.Laws.MakeOwn
import Derived.Laws.OwnMore
import Derived.Deep.OwnRows
import Derived.Tactics
import Derived.Lib.ConvBytes
import Derived.Laws.Slices
import Derived.WalkKit
import Derived.KernelRfl
import Derived.RowKit3
import Derived.Deep.LoopGhost
import Derived.Deep.QuietTactic
import Derived.BigQuiet
import Derived.WideLaws
import Derived.Deep.DeepCutAuto
import Derived.Deep.CutBlock
import Derived.Deep.RegionHeld3
import Derived.Laws.Rows
import Derived.Lib.AppendStr
import Derived.ArgAppend
import Derived.Laws.IdiomCopy
import Derived.OrdersHeld
import Derived.Laws.BitsLemmas
import Derived.RowKit
import Derived.StillTailTactics
import Derived.Test.YtpjkhecefppamaaDoorWWords
import Derived.Test.YtpjkhecefppamaaDoorWLast
import Derived.Test.YtpjkhecefppamaaDoorWMore
import Derived.Lib.Hide
import Derived.Test.YtpjkhecefppamaaDoorWArr
import Derived.Test.YtpjkhecefppamaaDoorReader2
/- A count's spelling: what is taken is its only one; what is put is taken. -/
namespace Go.Proofs.YtpjkhecefppamaaDoor.Hand
open Go Go.RowKit Go.Proofs.YtpjkhecefppamaaDoor.Plain Go.Proofs.YtpjkhecefppamaaDoor.PAll Go.Proofs.YtpjkhecefppamaaDoorW.PrintWords Go.Proofs.YtpjkhecefppamaaDoorW.PrintLast Go.Proofs.YtpjkhecefppamaaDoorW.PrintMore
set_option linter.unusedVariables false
set_option linter.unusedSimpArgs false
theorem digs_val : ∀ (l : List Int), (∀ x ∈ l, 0 ≤ x ∧ x < 256) → digs l.length (val l).toNat = l
  | [], _ => rfl
  | x :: l, h => by
    have h1 := h x (by simp)
    have h2 := val_bounds l (fun y hy => h y (by simp [hy]))
    have ih := digs_val l (fun y hy => h y (by simp [hy]))
    simp only [List.length_cons, digs, val]
    have e1 : (x + 256 * val l).toNat % 256 = x.toNat := by omega
    have e2 : (x + 256 * val l).toNat / 256 = (val l).toNat := by omega
    rw [e1, e2, ih, Int.toNat_of_nonneg h1.1]
theorem wid1 : wid 1 = 1 := by decide
theorem wid2 : wid 2 = 2 := by decide
theorem wid4 : wid 4 = 4 := by decide
theorem wid8 : wid 8 = 8 := by decide
/-- How many bytes stand behind a count's first one; the least number that they may be. -/
def wof (b : Int) : Nat := if b = 253 then 2 else if b = 254 then 4 else if b = 255 then 8 else 0
def lof (b : Int) : Int := if b = 253 then 253 else if b = 254 then 65536 else if b = 255 then 4294967296 else 0
def cnum (b : Int) (t : List Int) : Int := if wof b = 0 then b else val (t.take (wof b))
/-- A count at a text's front: its number, how many bytes it is, the error. -/
def countS (s : List Int) (most : Int) : Int × Nat × Int :=
  match s with
  | [] => (0, 0, 2)
  | b :: t => if t.length < wof b then (0, 0, 2) else if cnum b t < lof b then (0, 0, 3) else if most < cnum b t then (0, 0, 4) else (cnum b t, 1 + wof b, 0)
theorem takeR_at (bs : List Int) (p : Nat) (hp : p ≤ bs.length) (k : Nat) : takeR bs p 0 (k : Nat) = if (bs.drop p).length < k then ([], p, 2) else ((bs.drop p).take k, p + k, 0) := by
  unfold takeR
  rw [if_neg (by decide), List.length_drop]
  by_cases h : bs.length - p < k
  · rw [if_pos (by omega), if_pos h]
  · rw [if_neg (by omega), if_neg h]
    simp
theorem numR_short {bs : List Int} {p : Nat} (hp : p ≤ bs.length) {a : Int} (h : (bs.drop p).length < wid a) : numR bs p 0 a = (0, p, 2) := by
  unfold numR
  rw [takeR_at bs p hp, if_pos h]
  rfl
theorem numR_long {bs : List Int} {p : Nat} (hp : p ≤ bs.length) {a : Int} (h : wid a ≤ (bs.drop p).length) : numR bs p 0 a = (val ((bs.drop p).take (wid a)), p + wid a, 0) := by
  unfold numR
  rw [takeR_at bs p hp, if_neg (by omega)]
theorem spell_step {bs : List Int} {p : Nat} {b : Int} {t : List Int} (h : bs.drop p = b :: t) (a : Int) :
    numR bs (p + 1) 0 a = if t.length < wid a then (0, p + 1, 2) else (val (t.take (wid a)), p + 1 + wid a, 0) := by
  have hl : p + 1 ≤ bs.length := by
    have := congrArg List.length h
    simp at this
    omega
  have hd : bs.drop (p + 1) = t := by rw [← List.drop_drop, h]; rfl
  by_cases hs : t.length < wid a
  · rw [if_pos hs, numR_short hl (by rw [hd]; exact hs)]
  · rw [if_neg hs, numR_long hl (by rw [hd]; omega), hd]
theorem var_mid (p k : Nat) (most v l : Int) : var2 p most (v, l, p + 1 + k, 0) = ((if v < l then ((0 : Int), 0, (3 : Int)) else if most < v then (0, 0, 4) else (v, 1 + k, 0)).1, p + (if v < l then ((0 : Int), 0, (3 : Int)) else if most < v then (0, 0, 4) else (v, 1 + k, 0)).2.1, (if v < l then ((0 : Int), 0, (3 : Int)) else if most < v then (0, 0, 4) else (v, 1 + k, 0)).2.2) := by
  unfold var2
  simp only
  rw [if_neg (by decide)]
  split
  · rfl
  · split
    · rfl
    · simp only [Prod.mk.injEq, true_and, and_true]
      omega
theorem varR_count (bs : List Int) (p : Nat) (hp : p ≤ bs.length) (most : Int) : varR bs p 0 most = ((countS (bs.drop p) most).1, p + (countS (bs.drop p) most).2.1, (countS (bs.drop p) most).2.2) := by
  unfold varR spellR
  cases hs : bs.drop p with
  | nil =>
    rw [numR_short hp (by rw [hs, wid1]; decide)]
    unfold spell2 var2
    simp [countS]
  | cons b t =>
    have hl : p + 1 ≤ bs.length := by
      have := congrArg List.length hs
      simp at this
      omega
    have h1 : numR bs p 0 1 = (b, p + 1, 0) := by
      rw [numR_long hp (by rw [hs, wid1]; simp), hs, wid1]
      simp [val]
    rw [h1]
    unfold spell2
    simp only
    have hst := spell_step hs
    by_cases t1 : b = 253
    · rw [if_pos t1, hst, wid2]
      have e1 : wof b = 2 := by unfold wof; rw [if_pos t1]
      have e2 : lof b = 253 := by unfold lof; rw [if_pos t1]
      have e3 : cnum b t = val (t.take 2) := by unfold cnum; rw [e1, if_neg (by decide)]
      simp only [countS, e1, e2, e3]
      by_cases ts : t.length < 2
      · rw [if_pos ts, if_pos ts]; simp [var2]
      · rw [if_neg ts, if_neg ts]
        exact var_mid p 2 most _ _
    · rw [if_neg t1]
      by_cases t2 : b = 254
      · rw [if_pos t2, hst, wid4]
        have e1 : wof b = 4 := by unfold wof; rw [if_neg t1, if_pos t2]
        have e2 : lof b = 65536 := by unfold lof; rw [if_neg t1, if_pos t2]
        have e3 : cnum b t = val (t.take 4) := by unfold cnum; rw [e1, if_neg (by decide)]
        simp only [countS, e1, e2, e3]
        by_cases ts : t.length < 4
        · rw [if_pos ts, if_pos ts]; simp [var2]
        · rw [if_neg ts, if_neg ts]
          exact var_mid p 4 most _ _
      · rw [if_neg t2]
        by_cases t3 : b = 255
        · rw [if_pos t3, hst, wid8]
          have e1 : wof b = 8 := by unfold wof; rw [if_neg t1, if_neg t2, if_pos t3]
          have e2 : lof b = 4294967296 := by unfold lof; rw [if_neg t1, if_neg t2, if_pos t3]
          have e3 : cnum b t = val (t.take 8) := by unfold cnum; rw [e1, if_neg (by decide)]
          simp only [countS, e1, e2, e3]
          by_cases ts : t.length < 8
          · rw [if_pos ts, if_pos ts]; simp [var2]
          · rw [if_neg ts, if_neg ts]
            exact var_mid p 8 most _ _
        · rw [if_neg t3]
          have e1 : wof b = 0 := by unfold wof; rw [if_neg t1, if_neg t2, if_neg t3]
          have e2 : lof b = 0 := by unfold lof; rw [if_neg t1, if_neg t2, if_neg t3]
          have e3 : cnum b t = b := by unfold cnum; rw [e1, if_pos rfl]
          simp only [countS, e1, e2, e3]
          rw [if_neg (by omega)]
          exact var_mid p 0 most _ _
theorem digs1 (n : Nat) (h : n < 256) : digs 1 n = [(n : Int)] := by
  simp [digs]
  omega
/-- A spelling that is not too short for its number is the number's. -/
theorem spelt {b : Int} {t : List Int} (hb : 0 ≤ b ∧ b < 256) (ht : ∀ x ∈ t, 0 ≤ x ∧ x < 256) (hl : wof b ≤ t.length) : (lof b ≤ cnum b t ↔ varB (cnum b t).toNat = (b :: t).take (1 + wof b)) ∧ 0 ≤ cnum b t ∧ cnum b t < 18446744073709551616 := by
  have htk : ∀ x ∈ t.take (wof b), 0 ≤ x ∧ x < 256 := fun x hx => ht x (List.mem_of_mem_take hx)
  have hlen : (t.take (wof b)).length = wof b := by rw [List.length_take]; omega
  have hvb := val_bounds _ htk
  have hdv := digs_val _ htk
  rw [hlen] at hvb hdv
  rw [show (b :: t).take (1 + wof b) = b :: t.take (wof b) from by rw [Nat.add_comm]; rfl]
  have hlv : ∀ n, (varB n).length = (if n < 253 then 1 else if n ≤ 65535 then 3 else if n ≤ 4294967295 then 5 else 9) := by
    intro n
    unfold varB
    repeat' split
    all_goals simp [digs_length]
  by_cases t1 : b = 253
  · have e1 : wof b = 2 := by unfold wof; rw [if_pos t1]
    have e2 : lof b = 253 := by unfold lof; rw [if_pos t1]
    unfold cnum
    rw [e1] at hdv hvb hlen ⊢
    rw [e2, if_neg (by decide)]
    generalize val (t.take 2) = v at hdv hvb ⊢
    have hv : v < 65536 := by have : (256 : Int) ^ 2 = 65536 := by decide
                              omega
    refine ⟨⟨fun h => ?_, fun h => ?_⟩, hvb.1, by omega⟩
    · unfold varB
      rw [if_neg (by omega), if_pos (by omega), hdv, digs1 253 (by decide), t1]
      rfl
    · have hh := congrArg List.length h
      rw [hlv, List.length_cons, hlen] at hh
      split at hh
      · omega
      · omega
  · by_cases t2 : b = 254
    · have e1 : wof b = 4 := by unfold wof; rw [if_neg t1, if_pos t2]
      have e2 : lof b = 65536 := by unfold lof; rw [if_neg t1, if_pos t2]
      unfold cnum
      rw [e1] at hdv hvb hlen ⊢
      rw [e2, if_neg (by decide)]
      generalize val (t.take 4) = v at hdv hvb ⊢
      have hv : v < 4294967296 := by have : (256 : Int) ^ 4 = 4294967296 := by decide
                                     omega
      refine ⟨⟨fun h => ?_, fun h => ?_⟩, hvb.1, by omega⟩
      · unfold varB
        rw [if_neg (by omega), if_neg (by omega), if_pos (by omega), hdv, digs1 254 (by decide), t2]
        rfl
      · have hh := congrArg List.length h
        rw [hlv, List.length_cons, hlen] at hh
        repeat' split at hh
        all_goals omega
    · by_cases t3 : b = 255
      · have e1 : wof b = 8 := by unfold wof; rw [if_neg t1, if_neg t2, if_pos t3]
        have e2 : lof b = 4294967296 := by unfold lof; rw [if_neg t1, if_neg t2, if_pos t3]
        unfold cnum
        rw [e1] at hdv hvb hlen ⊢
        rw [e2, if_neg (by decide)]
        generalize val (t.take 8) = v at hdv hvb ⊢
        have hv : v < 18446744073709551616 := by have : (256 : Int) ^ 8 = 18446744073709551616 := by decide
                                                 omega
        refine ⟨⟨fun h => ?_, fun h => ?_⟩, hvb.1, by omega⟩
        · unfold varB
          rw [if_neg (by omega), if_neg (by omega), if_neg (by omega), hdv, digs1 255 (by decide), t3]
          rfl
        · have hh := congrArg List.length h
          rw [hlv, List.length_cons, hlen] at hh
          repeat' split at hh
          all_goals omega
      · have e1 : wof b = 0 := by unfold wof; rw [if_neg t1, if_neg t2, if_neg t3]
        have e2 : lof b = 0 := by unfold lof; rw [if_neg t1, if_neg t2, if_neg t3]
        unfold cnum
        rw [e1, e2, if_pos rfl]
        refine ⟨⟨fun _ => ?_, fun _ => hb.1⟩, hb.1, by omega⟩
        unfold varB
        rw [if_pos (by omega), digs1 _ (by omega), Int.toNat_of_nonneg hb.1]
        rfl
theorem count_ok {s : List Int} (hs : ∀ x ∈ s, 0 ≤ x ∧ x < 256) {most n : Int} {k : Nat} (h : countS s most = (n, k, 0)) : varB n.toNat = s.take k ∧ k ≤ s.length ∧ 0 ≤ n ∧ n ≤ most ∧ n < 18446744073709551616 := by
  cases s with
  | nil => simp [countS] at h
  | cons b t =>
    have hb := hs b (by simp)
    have ht : ∀ x ∈ t, 0 ≤ x ∧ x < 256 := fun x hx => hs x (by simp [hx])
    simp only [countS] at h
    by_cases c1 : t.length < wof b
    · rw [if_pos c1] at h; simp at h
    · rw [if_neg c1] at h
      by_cases c2 : cnum b t < lof b
      · rw [if_pos c2] at h; simp at h
      · rw [if_neg c2] at h
        by_cases c3 : most < cnum b t
        · rw [if_pos c3] at h; simp at h
        · rw [if_neg c3] at h
          simp only [Prod.mk.injEq, and_true] at h
          obtain ⟨rfl, rfl⟩ := h
          obtain ⟨h1, h2, h3⟩ := spelt hb ht (by omega)
          exact ⟨h1.1 (by omega), by simp; omega, h2, by omega, h3⟩
theorem val_digs_lt (d n : Nat) (h : n < 256 ^ d) : val (digs d n) = (n : Int) := by rw [val_digs, Nat.mod_eq_of_lt h]
theorem count_back (n : Nat) (hn : n < 18446744073709551616) (rest : List Int) {most : Int} (hm : (n : Int) ≤ most) : countS (varB n ++ rest) most = ((n : Int), (varB n).length, 0) := by
  unfold varB
  by_cases c1 : n < 253
  · rw [if_pos c1, digs1 n (by omega)]
    have e1 : wof (n : Int) = 0 := by unfold wof; rw [if_neg (by omega), if_neg (by omega), if_neg (by omega)]
    have e2 : lof (n : Int) = 0 := by unfold lof; rw [if_neg (by omega), if_neg (by omega), if_neg (by omega)]
    simp only [List.cons_append, List.nil_append, countS, cnum, e1, e2]
    rw [if_neg (by omega), if_pos trivial, if_neg (by omega), if_neg (by omega)]
    rfl
  · rw [if_neg c1]
    have key : ∀ (b : Nat) (d : Nat) (l : Int), b < 256 → wof (b : Int) = d → 0 < d → lof (b : Int) = l → l ≤ n → n < 256 ^ d → countS ((digs 1 b ++ digs d n) ++ rest) most = ((n : Int), (digs 1 b ++ digs d n).length, 0) := by
      intro b d l hb h1 h0 h2 h3 h4
      rw [digs1 b hb]
      have e : (digs d n ++ rest).take d = digs d n := by rw [List.take_append_of_le_length (by rw [digs_length]; exact Nat.le_refl _), List.take_of_length_le (by rw [digs_length]; exact Nat.le_refl _)]
      have e3 : cnum (b : Int) (digs d n ++ rest) = (n : Int) := by
        unfold cnum
        rw [h1, if_neg (by omega), e, val_digs_lt d n h4]
      simp only [List.cons_append, List.nil_append, countS, h1, h2, e3]
      rw [if_neg (by simp [digs_length]), if_neg (by omega), if_neg (by omega)]
      simp [digs_length]
      omega
    by_cases c2 : n ≤ 65535
    · rw [if_pos c2]
      exact key 253 2 253 (by decide) (by decide) (by decide) (by decide) (by omega) (by have : 256 ^ 2 = 65536 := by decide
                                                                                         omega)
    · rw [if_neg c2]
      by_cases c3 : n ≤ 4294967295
      · rw [if_pos c3]
        exact key 254 4 65536 (by decide) (by decide) (by decide) (by decide) (by omega) (by have : 256 ^ 4 = 4294967296 := by decide
                                                                                             omega)
      · rw [if_neg c3]
        exact key 255 8 4294967296 (by decide) (by decide) (by decide) (by decide) (by omega) (by have : 256 ^ 8 = 18446744073709551616 := by decide
                                                                                                  omega)
end Go.Proofs.YtpjkhecefppamaaDoor.Hand

/- What the document's functions of the codec compute, over lists of bytes. -/
namespace Go.Proofs.YtpjkhecefppamaaDoor.Hand
open Go Go.RowKit Go.Proofs.YtpjkhecefppamaaDoor.Plain Go.Proofs.YtpjkhecefppamaaDoor.PAll Go.Proofs.YtpjkhecefppamaaDoorW.PrintWords Go.Proofs.YtpjkhecefppamaaDoorW.PrintLast Go.Proofs.YtpjkhecefppamaaDoorW.PrintMore
set_option linter.unusedVariables false
set_option linter.unusedSimpArgs false
theorem digits_loop (d : Nat) : ∀ (k n : Nat) (w : Nat) (out : List Int) (i : Nat), n < 18446744073709551616 → w ≤ 8 → out.length ≤ i → i + d = w → d < k →
    mastheadref01_Digits.l0 k (n : Int) (w : Int) out (i : Int) = some (out ++ digs d n) := by
  induction d with
  | zero =>
    intro k n w out i hn hw ho hi hk
    obtain ⟨k, rfl⟩ : ∃ m, k = m + 1 := ⟨k - 1, by omega⟩
    simp only [mastheadref01_Digits.l0]
    rw [if_neg (by omega)]
    simp [digs]
  | succ d ih =>
    intro k n w out i hn hw ho hi hk
    obtain ⟨k, rfl⟩ : ∃ m, k = m + 1 := ⟨k - 1, by omega⟩
    simp only [mastheadref01_Digits.l0]
    have e1 : IntKind.u64.wrap (Int.tdiv (n : Int) 256) = ((n / 256 : Nat) : Int) := by
      have : Int.tdiv (n : Int) 256 = ((n / 256 : Nat) : Int) := by rw [Int.tdiv_eq_ediv_of_nonneg (by omega)]; simp
      rw [this, u64w_id (by omega) (by omega)]
    have e2 : wrap64 (Int.tmod (n : Int) 256) = ((n % 256 : Nat) : Int) := by
      rw [Int.tmod_eq_emod_of_nonneg (by omega), wrap64_id (by omega) (by omega)]; simp
    rw [if_pos (by omega), if_pos (by omega), e1, e2, wrap64_succ (by omega), ih k (n / 256) w _ (i + 1) (by omega) hw (by simp; omega) (by omega) (by omega)]
    simp [digs]
theorem held_tells (w : Int) : mastheadref01_Held.f w = some (wid w : Int) := by
  unfold mastheadref01_Held.f wid mn mx
  repeat' split
  all_goals first | omega | (simp <;> omega)
theorem str_append (a b : List Int) : strOfNums (a ++ b) = strOfNums a ++ strOfNums b := by
  apply ByteArray.ext
  simp [strOfNums, ByteArray.data_append]
theorem str_extract (l : List Int) (a b : Nat) : (strOfNums l).extract a b = strOfNums ((l.drop a).take (b - a)) := by
  apply ByteArray.ext
  apply Array.toList_inj.1
  simp [strOfNums, ByteArray.data_extract, List.extract_eq_take_drop]
theorem str_inj {a b : List Int} (ha : ∀ x ∈ a, 0 ≤ x ∧ x < 256) (hb : ∀ x ∈ b, 0 ≤ x ∧ x < 256) (h : strOfNums a = strOfNums b) : a = b := by
  have h1 : (strOfNums a).data.toList = (strOfNums b).data.toList := by rw [h]
  rw [strOfNums_data, strOfNums_data] at h1
  have hlen : a.length = b.length := by simpa using congrArg List.length h1
  apply List.ext_getElem hlen
  intro i h2 h3
  have h4 : (a.map fun n => UInt8.ofNat n.toNat)[i]'(by simpa using h2) = (b.map fun n => UInt8.ofNat n.toNat)[i]'(by simpa using h3) := by simp only [h1]
  simp only [List.getElem_map] at h4
  have h5 := congrArg UInt8.toNat h4
  have ba := ha a[i] (List.getElem_mem _)
  have bb := hb b[i] (List.getElem_mem _)
  simp only [UInt8.toNat_ofNat'] at h5
  omega
theorem digits_tells (n : Nat) (w : Nat) (hn : n < 18446744073709551616) (hw : w ≤ 8) (k : Nat) (hk : 10 ≤ k) : mastheadref01_Digits.f k (n : Int) (w : Int) = some (digs w n) := by
  unfold mastheadref01_Digits.f
  have := digits_loop w k n w [] 0 hn hw (by simp) (by omega) (by omega)
  simpa using this
theorem rnum_loop (ds : List Int) (hb : ∀ x ∈ ds, 0 ≤ x ∧ x < 256) (hl : ds.length ≤ 8) (d : Nat) : ∀ (k i : Nat), i + d = ds.length → d < k →
    mastheadref06_Num.l0 k (ds.take i) ds (ds.length : Int) (i : Int) = some (strOfNums ds) := by
  induction d with
  | zero =>
    intro k i hi hk
    obtain ⟨k, rfl⟩ : ∃ m, k = m + 1 := ⟨k - 1, by omega⟩
    simp only [mastheadref06_Num.l0]
    rw [if_neg (by omega), List.take_of_length_le (by omega)]
  | succ d ih =>
    intro k i hi hk
    obtain ⟨k, rfl⟩ : ∃ m, k = m + 1 := ⟨k - 1, by omega⟩
    have hil : i < ds.length := by omega
    simp only [mastheadref06_Num.l0]
    have x1 : rd ds (i : Int) = ds[i] := by simp [rd, hil]
    have hx := hb ds[i] (List.getElem_mem hil)
    rw [if_pos (by omega), if_pos (by omega), if_pos (by omega), if_pos (by simp; omega), x1, wrap64_succ (by omega)]
    have e : ds.take i ++ [ds[i] % 256] = ds.take (i + 1) := by
      rw [List.take_succ_eq_append_getElem hil, Int.emod_eq_of_lt hx.1 hx.2]
    rw [e]
    exact ih k (i + 1) (by omega) (by omega)
theorem rnum_tells (n : Nat) (a : Int) (hn : n < 18446744073709551616) (k : Nat) (hk : 10 ≤ k) : mastheadref06_Num.f k (n : Int) a = some (strOfNums (digs (wid a) n)) := by
  unfold mastheadref06_Num.f
  have hw := wid_le a
  rw [held_tells]
  simp only [Option.bind_some]
  rw [digits_tells n (wid a) hn hw k hk]
  simp only [Option.bind_some]
  have := rnum_loop (digs (wid a) n) (digs_bytes _ _) (by rw [digs_length]; exact hw) (digs (wid a) n).length k 0 (by omega) (by rw [digs_length]; omega)
  simpa using this
theorem rvar_tells (n : Nat) (hn : n < 18446744073709551616) (k : Nat) (hk : 10 ≤ k) : mastheadref06_Var.f k (n : Int) = some (strOfNums (varB n)) := by
  unfold mastheadref06_Var.f varB
  by_cases c1 : n < 253
  · rw [if_pos (by omega), if_pos c1, rnum_tells n 1 hn k hk]; rfl
  · rw [if_neg (by omega), if_neg c1]
    by_cases c2 : n ≤ 65535
    · rw [if_pos (by omega), if_pos c2, rnum_tells n 2 hn k hk]
      simp only [Option.bind_some]
      rw [if_pos (by rw [strOfNums_size, digs_length]; have := wid_le 2; omega), str_append]
      rfl
    · rw [if_neg (by omega), if_neg c2]
      by_cases c3 : n ≤ 4294967295
      · rw [if_pos (by omega), if_pos c3, rnum_tells n 4 hn k hk]
        simp only [Option.bind_some]
        rw [if_pos (by rw [strOfNums_size, digs_length]; have := wid_le 4; omega), str_append]
        rfl
      · rw [if_neg (by omega), if_neg c3, rnum_tells n 8 hn k hk]
        simp only [Option.bind_some]
        rw [if_pos (by rw [strOfNums_size, digs_length]; have := wid_le 8; omega), str_append]
        rfl
end Go.Proofs.YtpjkhecefppamaaDoor.Hand

/- A transaction's bytes: plain. -/
namespace Go.Proofs.YtpjkhecefppamaaDoor.Hand
open Go Go.RowKit Go.Proofs.YtpjkhecefppamaaDoor.Plain Go.Proofs.YtpjkhecefppamaaDoor.PAll Go.Proofs.YtpjkhecefppamaaDoorW.PrintWords Go.Proofs.YtpjkhecefppamaaDoorW.PrintLast Go.Proofs.YtpjkhecefppamaaDoorW.PrintMore
set_option linter.unusedVariables false
set_option linter.unusedSimpArgs false
abbrev OutT := S46
/-- An output's bytes. -/
def outTB (o : OutT) : List Int := digs 8 o.f0.toNat ++ (varB o.f1.length ++ o.f1)
/-- What stands ahead of the outputs. -/
def headB (salt : Int) (n : Nat) : List Int := digs 1 1 ++ digs 8 salt.toNat ++ varB n
/-- A transaction's bytes. -/
def txB (salt : Int) (outs : List OutT) : List Int := headB salt outs.length ++ outs.flatMap outTB
/-- Is an item too long? -/
def longs (outs : List OutT) : Bool := outs.any (fun o => decide (64 < o.f1.length))
def bytesE (salt : Int) (outs : List OutT) : Int := if 8 < outs.length then 4 else if longs outs then 4 else if (txB salt outs).length = 64 then 3 else 0
def bytesV (salt : Int) (outs : List OutT) : List Int := if bytesE salt outs = 0 then txB salt outs else []
theorem varB_len (n : Nat) : (varB n).length ≤ 9 := by
  unfold varB
  repeat' split
  all_goals simp [digs_length]
theorem headB_len (salt : Int) (n : Nat) : (headB salt n).length ≤ 18 := by
  have := varB_len n
  simp [headB, digs_length]
  omega
theorem outTB_len (o : OutT) (h : o.f1.length ≤ 64) : (outTB o).length ≤ 81 := by
  have := varB_len o.f1.length
  simp [outTB, digs_length]
  omega
theorem outsTB_len : ∀ (l : List OutT), (∀ o ∈ l, o.f1.length ≤ 64) → (l.flatMap outTB).length ≤ 81 * l.length
  | [], _ => by simp
  | o :: l, h => by
    have h1 := outTB_len o (h o (by simp))
    have h2 := outsTB_len l (fun x hx => h x (by simp [hx]))
    simp only [List.flatMap_cons, List.length_append, List.length_cons]
    omega
theorem rd_out {outs : List OutT} {k : Int} (h0 : 0 ≤ k) (h1 : k < (outs.length : Int)) : ∃ h : k.toNat < outs.length, rd_T46 outs k = outs[k.toNat] := by
  refine ⟨by omega, ?_⟩
  unfold rd_T46
  rw [List.getD_eq_getElem?_getD, List.getElem?_eq_getElem (by omega : k.toNat < outs.length)]
  rfl
theorem take_out {outs : List OutT} {k : Int} (h0 : 0 ≤ k) (h1 : k < (outs.length : Int)) : (outs.take (k + 1).toNat).flatMap outTB = (outs.take k.toNat).flatMap outTB ++ outTB (rd_T46 outs k) := by
  obtain ⟨h, e⟩ := rd_out h0 h1
  rw [show (k + 1).toNat = k.toNat + 1 by omega, List.take_add_one, List.getElem?_eq_getElem h, e]
  simp only [Option.toList, List.flatMap_append, List.flatMap_cons, List.flatMap_nil, List.append_nil]
theorem longs_of {outs : List OutT} {k : Int} (h0 : 0 ≤ k) (h1 : k < (outs.length : Int)) (h : 64 < (rd_T46 outs k).f1.length) : longs outs = true := by
  obtain ⟨hk, e⟩ := rd_out h0 h1
  rw [e] at h
  exact List.any_eq_true.mpr ⟨_, List.getElem_mem hk, by simpa using h⟩
theorem longs_not {outs : List OutT} (h : ∀ o ∈ outs, o.f1.length ≤ 64) : longs outs = false := by
  unfold longs
  rw [List.any_eq_false]
  intro o ho
  have := h o ho
  simp
  omega
/-- The document's output. -/
def toO (o : OutT) : S57 := ⟨o.f0, strOfNums o.f1⟩
theorem rd_O {outs : List OutT} {i : Nat} (h : i < outs.length) : rd_T57 (outs.map toO) (i : Int) = toO outs[i] := by
  unfold rd_T57
  rw [List.getD_eq_getElem?_getD, Int.toNat_natCast, List.getElem?_map, List.getElem?_eq_getElem h]
  rfl
theorem rd_N {outs : List OutT} {i : Nat} (h : i < outs.length) : rd_T46 outs (i : Int) = outs[i] := (rd_out (k := (i : Int)) (by omega) (by omega)).2
theorem ref_loop (salt : Int) (outs : List OutT) (hn : outs.length ≤ 1000000) : ∀ (m i k : Nat) (acc : List S57), i + m = outs.length → acc.length = i → mastheadlaw14_Ref.l0 (m + 1 + k) outs (outs.length : Int) i salt acc = some (salt, acc ++ (outs.drop i).map toO)
  | 0, i, k, acc, h, ha => by
    rw [show 0 + 1 + k = k + 1 by omega]
    unfold mastheadlaw14_Ref.l0
    rw [if_neg (by omega), List.drop_eq_nil_of_le (by omega)]
    simp
  | m + 1, i, k, acc, h, ha => by
    have hi : i < outs.length := by omega
    rw [show m + 1 + 1 + k = (m + 1 + k) + 1 by omega]
    unfold mastheadlaw14_Ref.l0
    rw [if_pos (by omega), if_pos (by omega), if_pos (by omega), if_pos (by omega), rd_N hi, show wrap64 ((i : Int) + 1) = ((i + 1 : Nat) : Int) from (wrap64_id (by omega) (by omega)).trans (by simp), ref_loop salt outs hn m (i + 1) k _ (by omega) (by simp; omega), List.drop_eq_getElem_cons hi, List.append_assoc]
    rfl
theorem ref_f (salt : Int) (outs : List OutT) (hn : outs.length ≤ 1000000) (k : Nat) (hk : outs.length < k) : mastheadlaw14_Ref.f k salt outs = some (salt, outs.map toO) := by
  have h := ref_loop salt outs hn outs.length 0 (k - outs.length - 1) [] (by omega) rfl
  rw [show outs.length + 1 + (k - outs.length - 1) = k by omega] at h
  unfold mastheadlaw14_Ref.f
  exact h
end Go.Proofs.YtpjkhecefppamaaDoor.Hand

/- The law's small answers. -/
namespace Go.Proofs.YtpjkhecefppamaaDoor.Hand
open Go Go.RowKit Go.Proofs.YtpjkhecefppamaaDoor.Plain Go.Proofs.YtpjkhecefppamaaDoor.PAll Go.Proofs.YtpjkhecefppamaaDoorW.PrintWords Go.Proofs.YtpjkhecefppamaaDoorW.PrintLast Go.Proofs.YtpjkhecefppamaaDoorW.PrintMore
set_option linter.unusedVariables false
set_option linter.unusedSimpArgs false
/-- May one be gone through? -/
def smallT (outs : List OutT) : Bool := decide (outs.length ≤ 20) && outs.all (fun o => decide (o.f1.length ≤ 200))
theorem small_tells (outs : List OutT) (hn : outs.length ≤ 20) : ∀ (m i k : Nat), i + m = outs.length → mastheadlaw14_small.l0 (m + 1 + k) outs (outs.length : Int) i = some ((outs.drop i).all (fun o => decide (o.f1.length ≤ 200)))
  | 0, i, k, h => by
    rw [show 0 + 1 + k = k + 1 by omega]
    unfold mastheadlaw14_small.l0
    rw [if_neg (by omega), List.drop_eq_nil_of_le (by omega)]
    rfl
  | m + 1, i, k, h => by
    rw [show m + 1 + 1 + k = (m + 1 + k) + 1 by omega]
    have hi : i < outs.length := by omega
    have hd : outs.drop i = outs[i] :: outs.drop (i + 1) := List.drop_eq_getElem_cons hi
    obtain ⟨hh, e⟩ := rd_out (outs := outs) (k := (i : Int)) (by omega) (by omega)
    unfold mastheadlaw14_small.l0
    rw [if_pos (by omega), if_pos (by omega), if_pos (by omega), e, show wrap64 ((i : Int) + 1) = ((i + 1 : Nat) : Int) from (wrap64_id (by omega) (by omega)).trans (by simp), hd, List.all_cons]
    simp only [Int.toNat_natCast]
    by_cases h2 : (200 : Int) < (outs[i].f1.length : Int)
    · rw [if_pos h2, decide_eq_false (by omega)]
      rfl
    · rw [if_neg (by omega), decide_eq_true (by omega), Bool.true_and]
      exact small_tells outs hn m (i + 1) k (by omega)
theorem small_f (salt : Int) (outs : List OutT) : mastheadlaw14_small.f 21 salt outs = some (smallT outs) := by
  unfold mastheadlaw14_small.f smallT
  by_cases h : 20 < outs.length
  · rw [if_pos (by omega), decide_eq_false (by omega)]
    rfl
  · rw [if_neg (by omega), decide_eq_true (by omega), Bool.true_and]
    have h1 := small_tells outs (by omega) outs.length 0 (20 - outs.length) (by omega)
    rw [show outs.length + 1 + (20 - outs.length) = 21 by omega] at h1
    exact h1
end Go.Proofs.YtpjkhecefppamaaDoor.Hand

/- A transaction that comes in, opened. -/
namespace Go.Proofs.YtpjkhecefppamaaDoor.Hand
open Go Go.RowKit Go.Proofs.YtpjkhecefppamaaDoor.PAll Go.Proofs.YtpjkhecefppamaaDoorW.PrintWords Go.Proofs.YtpjkhecefppamaaDoorW.PrintLast Go.Proofs.YtpjkhecefppamaaDoorW.PrintMore
set_option linter.unusedVariables false
def outOf (x : Int × List Int) : OutT := ⟨x.1, x.2⟩
theorem C_outs {w : World} {A : Option Addr} {n : Nat} {xs : List (Int × List Int)} (h : Kd.C (Kd.pair (Kd.int .u64) (Kd.slice 5 (Kd.int .u8))) w A n xs) : Kd.C k46 w A n (xs.map outOf) := by
  obtain ⟨h1, h2, h3⟩ := h
  refine ⟨by rw [List.length_map]; exact h1, h2, fun hn => ?_⟩
  obtain ⟨ad, e, h4⟩ := h3 hn
  refine ⟨ad, e, fun j p hj => ?_⟩
  rw [List.getElem?_map] at hj
  cases hx : xs[j]? with
  | none => rw [hx] at hj; cases hj
  | some x =>
    rw [hx] at hj
    obtain rfl := Option.some.inj hj
    exact h4 j x hx
theorem K_tx {w : World} {x : Int × List (Int × List Int)} {cs : Array Value} (h : (Kd.pair (Kd.int .u64) (Kd.slice 46 (Kd.pair (Kd.int .u64) (Kd.slice 5 (Kd.int .u8))))).K w x cs.toList) :
    ∃ A c, cs = #[.int .u64 x.1, .slice A (x.2.map outOf).length c] ∧ (x.2.map outOf).length ≤ c ∧ Kd.C k46 w A (x.2.map outOf).length (x.2.map outOf) := by
  obtain ⟨_, _, e1, rfl, ⟨A, c, rfl, l, g⟩⟩ := h
  refine ⟨A, c, ?_, by rw [List.length_map]; exact l, by rw [List.length_map]; exact C_outs g⟩
  cases cs
  simp only at e1
  rw [e1, List.length_map]
  rfl
theorem arr_nums {w : World} {k : IntKind} {n : Nat} {hs : 0 < (Kd.int k).sz} {xs : List Int} {cs : Array Value} (h : (Kd.arr n (Kd.int k) hs).K w xs cs.toList) : xs.length = n ∧ cs = (nums k xs).toArray := by
  obtain ⟨h1, h2⟩ := h
  refine ⟨h1, ?_⟩
  have hl : cs.toList.length = xs.length := by have h3 : cs.toList.length = xs.length * 1 := h2.1; omega
  have : cs.toList = nums k xs := by
    apply List.ext_getElem?
    intro j
    by_cases hj : j < xs.length
    · have h3 := h2.2 j xs[j] (List.getElem?_eq_getElem hj)
      have h4 : (cs.toList.drop (j * 1)).take 1 = [.int k xs[j]] := h3
      have h5 : ((cs.toList.drop (j * 1)).take 1)[0]? = some (.int k xs[j]) := by rw [h4]; rfl
      rw [List.getElem?_take, if_pos (by decide), List.getElem?_drop, Nat.mul_one, Nat.add_zero] at h5
      rw [h5, nums, List.getElem?_map, List.getElem?_eq_getElem hj]
      rfl
    · rw [List.getElem?_eq_none (by omega), List.getElem?_eq_none (by simp [nums]; omega)]
  rw [← this]
end Go.Proofs.YtpjkhecefppamaaDoor.Hand

/- What a transaction's parsing answers: plain. -/
namespace Go.Proofs.YtpjkhecefppamaaDoor.Hand
open Go Go.RowKit Go.Proofs.YtpjkhecefppamaaDoor.Plain Go.Proofs.YtpjkhecefppamaaDoor.PAll Go.Proofs.YtpjkhecefppamaaDoorW.PrintWords Go.Proofs.YtpjkhecefppamaaDoorW.PrintLast Go.Proofs.YtpjkhecefppamaaDoorW.PrintMore
set_option linter.unusedVariables false
set_option linter.unusedSimpArgs false
/-- So many outputs from a place on. -/
def outsR (bs : List Int) : Nat → Nat → Int → List OutT × Nat × Int
  | 0, p, e => ([], p, e)
  | n + 1, p, e => (⟨(numR bs p e 8).1, (textR bs (numR bs p e 8).2.1 (numR bs p e 8).2.2 64).1⟩ :: (outsR bs n (textR bs (numR bs p e 8).2.1 (numR bs p e 8).2.2 64).2.1 (textR bs (numR bs p e 8).2.1 (numR bs p e 8).2.2 64).2.2).1, (outsR bs n (textR bs (numR bs p e 8).2.1 (numR bs p e 8).2.2 64).2.1 (textR bs (numR bs p e 8).2.1 (numR bs p e 8).2.2 64).2.2).2)
def aR (bs : List Int) : Int × Nat × Int := numR bs 0 0 1
def sR (bs : List Int) : Int × Nat × Int := numR bs (aR bs).2.1 (aR bs).2.2 8
def nR (bs : List Int) : Int × Nat × Int := varR bs (sR bs).2.1 (sR bs).2.2 8
def oR (bs : List Int) : List OutT × Nat × Int := outsR bs (nR bs).1.toNat (nR bs).2.1 (nR bs).2.2
def badR (bs : List Int) : Bool := decide (bs.length = 64) || (decide ((aR bs).2.2 = 0) && decide ((aR bs).1 ≠ 1))
def endE (bs : List Int) : Int := endR bs (oR bs).2.1 (oR bs).2.2
def parseE (bs : List Int) : Int := if badR bs then 3 else endE bs
def parseS (bs : List Int) : Int := if badR bs then 0 else if endE bs = 0 then (sR bs).1 else 0
def parseO (bs : List Int) : List OutT := if badR bs then [] else if endE bs = 0 then (oR bs).1 else []
theorem outsR_le {bs : List Int} : ∀ (n p : Nat) (e : Int), p ≤ bs.length → (outsR bs n p e).2.1 ≤ bs.length
  | 0, p, e, hp => hp
  | n + 1, p, e, hp => outsR_le n _ _ (textR_le (numR_le hp _ _) _ _)
theorem outsR_len {bs : List Int} : ∀ (n p : Nat) (e : Int), (outsR bs n p e).1.length = n
  | 0, p, e => rfl
  | n + 1, p, e => by simp [outsR, outsR_len n]
theorem nR_le {bs : List Int} (hb : ∀ x ∈ bs, 0 ≤ x ∧ x < 256) : 0 ≤ (nR bs).1 ∧ (nR bs).1 ≤ 8 := by
  have h := varR_u64 hb (sR bs).2.1 (sR bs).2.2 (most := 8) (by decide)
  exact ⟨h.1, h.2.1⟩
theorem aR_le (bs : List Int) : (aR bs).2.1 ≤ bs.length := numR_le (Nat.zero_le _) _ _
theorem sR_le (bs : List Int) : (sR bs).2.1 ≤ bs.length := numR_le (aR_le bs) _ _
theorem nR_pl (bs : List Int) : (nR bs).2.1 ≤ bs.length := varR_le (sR_le bs) _ _
theorem oR_le (bs : List Int) : (oR bs).2.1 ≤ bs.length := outsR_le _ _ _ (nR_pl bs)
section
/-- The reader at g (its memory from B on), the transaction under way in block gt, the answer's place gr; Q: what the outputs' blocks are. -/
def IsT (w0 w : World) (B g gr gt : Nat) (bs : List Int) (p : Nat) (e salt : Int) (u : Value) (acc : List OutT) (Q : Nat → Prop) : Prop :=
  p ≤ bs.length ∧ IsR w B g bs (p : Int) e ∧ w.heap[gt]? = some (.cells #[.int .u64 salt, u] 25 (0, 0)) ∧ Kd.R k46 46 w (g + 1) (fun k => k ≠ g ∧ Q k) u acc ∧ w.heap[gr]? = some (.cells #[.int .u64 0, .slice none 0 0] 25 (0, 0)) ∧ Below w0.heap.size w0 w ∧ w0.heap.size ≤ gr ∧ gr < g ∧ g < gt ∧ w0.heap.size ≤ B ∧ B ≤ g
variable {w0 w w' : World} {B g gr gt : Nat} {bs : List Int} {p p' : Nat} {e e' salt : Int} {u : Value} {acc : List OutT} {Q Q' : Nat → Prop}
theorem IsT.lt (h : IsT w0 w B g gr gt bs p e salt u acc Q) : gt < w.heap.size := blk_lt h.2.2.1
theorem IsT.mono (h : IsT w0 w B g gr gt bs p e salt u acc Q) (hq : ∀ k, Q k → Q' k) : IsT w0 w B g gr gt bs p e salt u acc Q' := by
  obtain ⟨h1, h2, h3, h4, h5⟩ := h
  exact ⟨h1, h2, h3, Kd.R_mono h4 (fun k hk => ⟨hk.1, hq k hk.2⟩), h5⟩
theorem IsT.bound (h : IsT w0 w B g gr gt bs p e salt u acc Q) : IsT w0 w B g gr gt bs p e salt u acc (fun k => Q k ∧ k < w.heap.size) := by
  obtain ⟨h1, h2, h3, h4, h5⟩ := h
  exact ⟨h1, h2, h3, Kd.R_mono (Kd.R_bound h4) (fun k hk => ⟨hk.1.1, hk.1.2, hk.2.2.1⟩), h5⟩
theorem IsT.read (h : IsT w0 w B g gr gt bs p e salt u acc Q) (hr : IsR w' B g bs (p' : Int) e') (hk : RKeep w w' B g) (hp : p' ≤ bs.length) : IsT w0 w' B g gr gt bs p' e' salt u acc Q := by
  obtain ⟨h1, h2, h3, h4, h5, h6, h7, h8, h9, h10, h11⟩ := h
  exact ⟨hp, hr, hk.2.blk h3 (by omega) (by simp), Kd.R_keep h4 hk.2 (fun k hk => hk.1), hk.2.blk h5 (by omega) (by simp), h6.trans (Below.mono hk.1 h10), h7, h8, h9, h10, h11⟩
theorem IsT.alloc (h : IsT w0 w B g gr gt bs p e salt u acc Q) (o : Obj) : IsT w0 (w.alloc o) B g gr gt bs p e salt u acc Q := by
  obtain ⟨h1, h2, h3, h4, h5, h6, h7⟩ := h
  exact ⟨h1, h2.alloc o, blk_alloc h3 o, Kd.R_alloc h4 o, blk_alloc h5 o, below_alloc h6 o, h7⟩
theorem IsT.far (h : IsT w0 w B g gr gt bs p e salt u acc Q) {b : Nat} (hb : gt < b) (hq : ∀ k, Q k → k ≠ b) (j : Nat) (x : Value) : IsT w0 (w.setCell ⟨b, j, none⟩ x) B g gr gt bs p e salt u acc Q := by
  obtain ⟨h1, h2, h3, h4, h5, h6, h7, h8, h9, h10, h11⟩ := h
  exact ⟨h1, h2.below (B' := g + 1) ((Below.refl _ _).setCell (p := ⟨b, j, none⟩) (by show g + 1 ≤ b; omega) x) (by omega), (Below.heap_setCell w ⟨b, j, none⟩ x gt (by show gt ≠ b; omega)).trans h3, Kd.R_far (p := ⟨b, j, none⟩) h4 (fun k hk => hq k hk.2) x, (Below.heap_setCell w ⟨b, j, none⟩ x gr (by show gr ≠ b; omega)).trans h5, h6.setCell (p := ⟨b, j, none⟩) (by show w0.heap.size ≤ b; omega) x, h7, h8, h9, h10, h11⟩
/-- One output more. -/
theorem IsT.push (h : IsT w0 w B g gr gt bs p e salt u acc Q) {v1 : Value} {acc' : List OutT} (hR : Kd.R k46 46 w' (g + 1) (fun k => k ≠ g) v1 acc') (hb : Below (g + 1) w w') (hg : w.grownBy w' u.ownBlock) :
    w'.cell? ⟨gt, 1, none⟩ = some u ∧ w'.frozen? ⟨gt, 1, none⟩ = false ∧ IsT w0 (w'.setCell ⟨gt, 1, none⟩ v1) B g gr gt bs p e salt v1 acc' (fun _ => True) := by
  obtain ⟨h1, h2, h3, h4, h5, h6, h7, h8, h9, h10, h11⟩ := h
  have hgt : w'.heap[gt]? = some (.cells #[.int .u64 salt, u] 25 (0, 0)) := (hg.block gt (blk_lt h3) (Kd.R_ne h4 h3 (by decide))).trans h3
  refine ⟨(blk_cell hgt 1).trans rfl, blk_frozen hgt _, h1, ?_, ?_, ?_, ?_, ?_, h7, h8, h9, h10, h11⟩
  · exact (h2.below hb (by omega)).below (B' := g + 1) ((Below.refl _ _).setCell (p := ⟨gt, 1, none⟩) (by show g + 1 ≤ gt; omega) v1) (by omega)
  · exact blk_set hgt 1 v1
  · exact Kd.R_mono (Kd.R_set hR hgt (by decide) 1 v1) (fun k hk => ⟨hk, trivial⟩)
  · exact (Below.heap_setCell w' ⟨gt, 1, none⟩ v1 gr (by show gr ≠ gt; omega)).trans ((hb.block gr (by omega)).trans h5)
  · exact (h6.trans (Below.mono hb (by omega))).setCell (p := ⟨gt, 1, none⟩) (by show w0.heap.size ≤ gt; omega) v1
end
end Go.Proofs.YtpjkhecefppamaaDoor.Hand

/- What is parsed has just these bytes: plain. -/
namespace Go.Proofs.YtpjkhecefppamaaDoor.Hand
open Go Go.RowKit Go.Proofs.YtpjkhecefppamaaDoor.Plain Go.Proofs.YtpjkhecefppamaaDoor.PAll Go.Proofs.YtpjkhecefppamaaDoorW.PrintWords Go.Proofs.YtpjkhecefppamaaDoorW.PrintLast Go.Proofs.YtpjkhecefppamaaDoorW.PrintMore
set_option linter.unusedVariables false
set_option linter.unusedSimpArgs false
/-- A list is the same as itself. -/
theorem same_loop (xs : List S57) (s : Int) (hn : xs.length ≤ 1000000) : ∀ (m i k : Nat), i + m = xs.length → mastheadref14_Same.l0 (m + 1 + k) (xs.length : Int) i s xs s xs = some true
  | 0, i, k, h => by
    rw [show 0 + 1 + k = k + 1 by omega]
    unfold mastheadref14_Same.l0
    rw [if_neg (by omega)]
  | m + 1, i, k, h => by
    rw [show m + 1 + 1 + k = (m + 1 + k) + 1 by omega]
    unfold mastheadref14_Same.l0
    rw [if_pos (by omega), if_pos (by omega), if_pos (by omega), if_pos (by omega), if_neg (by simp), show wrap64 ((i : Int) + 1) = ((i + 1 : Nat) : Int) from (wrap64_id (by omega) (by omega)).trans (by simp)]
    exact same_loop xs s hn m (i + 1) k (by omega)
theorem same_f (xs : List S57) (s : Int) (hn : xs.length ≤ 1000000) : mastheadref14_Same.f (xs.length + 2) s xs s xs = some true := by
  unfold mastheadref14_Same.f
  rw [if_pos rfl]
  show (if ((xs.length : Int) != (xs.length : Int)) = true then some false else mastheadref14_Same.l0 (xs.length + 1) (xs.length : Int) 0 s xs s xs) = some true
  rw [if_neg (by simp)]
  exact same_loop xs s hn xs.length 0 0 (by omega)
theorem outsR_nn {bs : List Int} (hb : ∀ x ∈ bs, 0 ≤ x ∧ x < 256) : ∀ (n p : Nat) (e : Int), ∀ o ∈ (outsR bs n p e).1, 0 ≤ o.f0
  | 0, p, e, o, ho => by simp [outsR] at ho
  | n + 1, p, e, o, ho => by
    simp only [outsR] at ho
    rcases List.mem_cons.mp ho with rfl | ho
    · exact (numR_u64 hb p e 8).1
    · exact outsR_nn hb n _ _ o ho
theorem parse_nn {bs : List Int} (hb : ∀ x ∈ bs, 0 ≤ x ∧ x < 256) : 0 ≤ parseS bs ∧ (∀ o ∈ parseO bs, 0 ≤ o.f0) ∧ (parseO bs).length ≤ 8 := by
  have h1 := (numR_u64 hb (aR bs).2.1 (aR bs).2.2 8).1
  have h2 := outsR_nn hb (nR bs).1.toNat (nR bs).2.1 (nR bs).2.2
  have h3 := nR_le hb
  have h4 : (oR bs).1.length = (nR bs).1.toNat := outsR_len _ _ _
  unfold parseS parseO
  refine ⟨?_, ?_, ?_⟩
  · split
    · decide
    · split
      · exact h1
      · decide
  · split
    · intro o ho; simp at ho
    · split
      · exact h2
      · intro o ho; simp at ho
  · split
    · simp
    · split
      · omega
      · simp
end Go.Proofs.YtpjkhecefppamaaDoor.Hand

/- A transaction's bytes are taken again: the plain law. -/
namespace Go.Proofs.YtpjkhecefppamaaDoor.Hand
open Go Go.RowKit Go.Proofs.YtpjkhecefppamaaDoor.Plain Go.Proofs.YtpjkhecefppamaaDoorW.PrintWords Go.Proofs.YtpjkhecefppamaaDoorW.PrintLast Go.Proofs.YtpjkhecefppamaaDoorW.PrintMore
set_option linter.unusedVariables false
set_option linter.unusedSimpArgs false
theorem takeR_front (pre ys rest : List Int) : takeR (pre ++ (ys ++ rest)) pre.length 0 (ys.length : Int) = (ys, pre.length + ys.length, 0) := by
  unfold takeR
  rw [if_neg (by simp), if_neg (by simp only [List.length_append]; omega)]
  simp
theorem varR_front (pre rest : List Int) (n : Nat) (hn : n < 18446744073709551616) {most : Int} (hm : (n : Int) ≤ most) : varR (pre ++ (varB n ++ rest)) pre.length 0 most = ((n : Int), pre.length + (varB n).length, 0) := by
  rw [varR_count _ _ (by simp), List.drop_left, count_back n hn rest hm]
theorem numR_front (pre rest : List Int) (n : Nat) (hn : n < 18446744073709551616) : numR (pre ++ (digs 8 n ++ rest)) pre.length 0 8 = ((n : Int), pre.length + 8, 0) := by
  have h := takeR_front pre (digs 8 n) rest
  rw [digs_length] at h
  unfold numR
  rw [wid8, h, val_digs_lt 8 n (by have e : (256 : Nat) ^ 8 = 18446744073709551616 := by decide
                                   omega)]
theorem textR_front (pre rest ys : List Int) {most : Int} (hm : 0 ≤ most) (hy : (ys.length : Int) ≤ most) (hy2 : ys.length < 18446744073709551616) : textR (pre ++ ((varB ys.length ++ ys) ++ rest)) pre.length 0 most = (ys, pre.length + (varB ys.length ++ ys).length, 0) := by
  have hv := varR_front pre (ys ++ rest) ys.length hy2 (most := most) hy
  have ht := takeR_front (pre ++ varB ys.length) ys rest
  have e : pre ++ ((varB ys.length ++ ys) ++ rest) = pre ++ (varB ys.length ++ (ys ++ rest)) := by rw [List.append_assoc]
  have e2 : (pre ++ varB ys.length) ++ (ys ++ rest) = pre ++ (varB ys.length ++ (ys ++ rest)) := List.append_assoc _ _ _
  rw [e2, List.length_append] at ht
  have hmx : mx most 0 = most := by unfold mx; split <;> omega
  unfold textR
  rw [hmx, e, hv]
  simp only
  rw [ht]
  unfold text2
  simp [List.length_append, Nat.add_assoc]
theorem outs_front : ∀ (outs : List OutT) (pre rest : List Int), (∀ o ∈ outs, o.f1.length ≤ 64 ∧ 0 ≤ o.f0 ∧ o.f0 < 18446744073709551616) → outsR (pre ++ (outs.flatMap outTB ++ rest)) outs.length pre.length 0 = (outs, pre.length + (outs.flatMap outTB).length, 0)
  | [], pre, rest, _ => by simp [outsR]
  | o :: outs, pre, rest, h => by
    obtain ⟨h1, h2, h3⟩ := h o (by simp)
    have hn := numR_front pre ((varB o.f1.length ++ o.f1) ++ (outs.flatMap outTB ++ rest)) o.f0.toNat (by omega)
    have ht := textR_front (pre ++ digs 8 o.f0.toNat) (outs.flatMap outTB ++ rest) o.f1 (most := 64) (by decide) (by omega) (by omega)
    have ih := outs_front outs (pre ++ outTB o) rest (fun x hx => h x (by simp [hx]))
    have e1 : pre ++ ((o :: outs).flatMap outTB ++ rest) = pre ++ (digs 8 o.f0.toNat ++ ((varB o.f1.length ++ o.f1) ++ (outs.flatMap outTB ++ rest))) := by
      simp [outTB, List.append_assoc]
    have e2 : (pre ++ digs 8 o.f0.toNat) ++ ((varB o.f1.length ++ o.f1) ++ (outs.flatMap outTB ++ rest)) = pre ++ (digs 8 o.f0.toNat ++ ((varB o.f1.length ++ o.f1) ++ (outs.flatMap outTB ++ rest))) := by rw [List.append_assoc]
    have e3 : (pre ++ outTB o) ++ (outs.flatMap outTB ++ rest) = pre ++ (digs 8 o.f0.toNat ++ ((varB o.f1.length ++ o.f1) ++ (outs.flatMap outTB ++ rest))) := by
      simp [outTB, List.append_assoc]
    rw [e2] at ht
    rw [e3] at ih
    rw [e1, List.length_cons, outsR, hn]
    simp only
    have hl8 : (digs 8 o.f0.toNat).length = 8 := digs_length 8 _
    rw [List.length_append, hl8] at ht
    rw [ht]
    simp only
    have hp : pre.length + 8 + (varB o.f1.length ++ o.f1).length = (pre ++ outTB o).length := by
      simp [outTB, digs_length]
      omega
    rw [hp, ih]
    have hf : (o.f0.toNat : Int) = o.f0 := by omega
    rw [hf]
    simp [List.length_append, Nat.add_assoc]
/-- P14.2: of a transaction's bytes it comes back. -/
theorem tx_front {salt : Int} {outs : List OutT} (hs : 0 ≤ salt ∧ salt < 18446744073709551616) (hv : ∀ o ∈ outs, 0 ≤ o.f0 ∧ o.f0 < 18446744073709551616) (h : bytesE salt outs = 0) :
    parseE (txB salt outs) = 0 ∧ parseS (txB salt outs) = salt ∧ parseO (txB salt outs) = outs := by
  unfold bytesE at h
  by_cases h8 : 8 < outs.length
  · rw [if_pos h8] at h; cases h
  rw [if_neg h8] at h
  by_cases hlg : longs outs = true
  · rw [if_pos hlg] at h; cases h
  rw [if_neg hlg] at h
  by_cases h64 : (txB salt outs).length = 64
  · rw [if_pos h64] at h; cases h
  have hit : ∀ o ∈ outs, o.f1.length ≤ 64 := fun o ho => by
    unfold longs at hlg
    rw [Bool.not_eq_true, List.any_eq_false] at hlg
    have := hlg o ho
    simpa using this
  have hd1 : digs 1 1 = [1] := by decide
  have ea : txB salt outs = [] ++ (digs 1 1 ++ (digs 8 salt.toNat ++ (varB outs.length ++ (outs.flatMap outTB ++ [])))) := by simp [txB, headB]
  have e1 : txB salt outs = [1] ++ (digs 8 salt.toNat ++ (varB outs.length ++ (outs.flatMap outTB ++ []))) := by rw [ea, hd1]; rfl
  have e2 : txB salt outs = ([1] ++ digs 8 salt.toNat) ++ (varB outs.length ++ (outs.flatMap outTB ++ [])) := by rw [e1, List.append_assoc]
  have e3 : txB salt outs = ([1] ++ digs 8 salt.toNat ++ varB outs.length) ++ (outs.flatMap outTB ++ []) := by rw [e2]; simp only [List.append_assoc]
  have hl8 : (digs 8 salt.toNat).length = 8 := digs_length 8 _
  have ra : aR (txB salt outs) = (1, 1, 0) := by
    unfold aR
    have ht := takeR_front [] [1] (digs 8 salt.toNat ++ (varB outs.length ++ (outs.flatMap outTB ++ [])))
    rw [List.nil_append, ← List.nil_append ([1] ++ _), List.nil_append, ← e1] at ht
    unfold numR
    rw [wid1]
    have ht : takeR (txB salt outs) 0 0 ((1 : Nat) : Int) = ([1], 0 + 1, 0) := ht
    rw [ht]
    decide
  have rs : sR (txB salt outs) = (salt, 9, 0) := by
    unfold sR
    rw [ra]
    have hn := numR_front [1] (varB outs.length ++ (outs.flatMap outTB ++ [])) salt.toNat (by omega)
    rw [← e1] at hn
    have hn : numR (txB salt outs) 1 0 8 = ((salt.toNat : Int), 1 + 8, 0) := hn
    show numR (txB salt outs) 1 0 8 = _
    rw [hn, show (salt.toNat : Int) = salt by omega]
  have rn : nR (txB salt outs) = ((outs.length : Int), 9 + (varB outs.length).length, 0) := by
    unfold nR
    rw [rs]
    have hn := varR_front ([1] ++ digs 8 salt.toNat) (outs.flatMap outTB ++ []) outs.length (by omega) (most := 8) (by omega)
    rw [← e2, List.length_append, hl8] at hn
    exact hn
  have ro : oR (txB salt outs) = (outs, (txB salt outs).length, 0) := by
    unfold oR
    rw [rn]
    have hn := outs_front outs ([1] ++ digs 8 salt.toNat ++ varB outs.length) [] (fun o ho => ⟨hit o ho, hv o ho⟩)
    rw [← e3, List.length_append, List.length_append, hl8] at hn
    show outsR (txB salt outs) (outs.length : Int).toNat (9 + (varB outs.length).length) 0 = _
    rw [Int.toNat_natCast]
    have hl : (txB salt outs).length = [(1 : Int)].length + 8 + (varB outs.length).length + (outs.flatMap outTB).length := by
      rw [e3]
      simp [hl8]
      omega
    rw [hl]
    exact hn
  have hbad : badR (txB salt outs) = false := by
    unfold badR
    rw [ra]
    simp [h64]
  have hend : endE (txB salt outs) = 0 := by
    unfold endE endR
    rw [ro]
    simp
  refine ⟨?_, ?_, ?_⟩
  · unfold parseE
    rw [hbad, hend]
    rfl
  · unfold parseS
    rw [hbad, hend, rs]
    rfl
  · unfold parseO
    rw [hbad, hend, ro]
    rfl
end Go.Proofs.YtpjkhecefppamaaDoor.Hand

/- The document's bytes of a transaction: what they are. -/
namespace Go.Proofs.YtpjkhecefppamaaDoor.Hand
open Go Go.RowKit Go.Proofs.YtpjkhecefppamaaDoor.Plain Go.Proofs.YtpjkhecefppamaaDoor.PAll Go.Proofs.YtpjkhecefppamaaDoorW.PrintWords Go.Proofs.YtpjkhecefppamaaDoorW.PrintLast Go.Proofs.YtpjkhecefppamaaDoorW.PrintMore
set_option linter.unusedVariables false
set_option linter.unusedSimpArgs false
set_option linter.unnecessarySimpa false
theorem rtext_tells (ys : List Int) (hl : ys.length ≤ 1000000) (k : Nat) (hk : 10 ≤ k) : mastheadref06_Text.f k (strOfNums ys) = some (strOfNums (varB ys.length ++ ys)) := by
  unfold mastheadref06_Text.f
  rw [strOfNums_size, u64w_id (by omega) (by omega), rvar_tells ys.length (by omega) k hk]
  show (if (strOfNums (varB ys.length)).size + ys.length ≤ _ then _ else _) = _
  rw [if_pos (by rw [strOfNums_size]; have := varB_len ys.length; omega), str_append]
theorem rb_loop (outs : List OutT) (hv : ∀ o ∈ outs, 0 ≤ o.f0 ∧ o.f0 < 18446744073709551616) (h8 : outs.length ≤ 8) (hi9 : ∀ o ∈ outs, o.f1.length ≤ 1000000) : ∀ (m i j : Nat) (acc : List Int), i + m = outs.length → acc.length ≤ 18 + 81 * i → 10 ≤ j →
    mastheadref14_Bytes.l0 (m + 1 + j) (strOfNums acc) (outs.map toO) (outs.length : Int) (i : Int) = some (if longs (outs.drop i) = true then (⟨#[]⟩, 4) else if (acc ++ (outs.drop i).flatMap outTB).length = 64 then (⟨#[]⟩, 3) else (strOfNums (acc ++ (outs.drop i).flatMap outTB), 0))
  | 0, i, j, acc, h, ha, hj => by
    rw [show 0 + 1 + j = j + 1 by omega]
    unfold mastheadref14_Bytes.l0
    have hd : outs.drop i = [] := List.drop_eq_nil_of_le (by omega)
    rw [if_neg (by omega), hd, strOfNums_size]
    have hlg : longs [] = false := rfl
    rw [hlg, if_neg Bool.false_ne_true]
    simp only [List.flatMap_nil, List.append_nil]
    by_cases h64 : acc.length = 64
    · rw [if_pos (by omega), if_pos h64]
    · rw [if_neg (by omega), if_neg h64]
  | m + 1, i, j, acc, h, ha, hj => by
    have hi : i < outs.length := by omega
    have hmem := List.getElem_mem hi
    have hov := hv _ hmem
    have hol := hi9 _ hmem
    have hdr := List.drop_eq_getElem_cons hi
    have hrd := rd_O hi
    obtain ⟨o, ho⟩ : ∃ o, outs[i] = o := ⟨_, rfl⟩
    rw [ho] at hov hol hdr hrd
    rw [show m + 1 + 1 + j = (m + 1 + j) + 1 by omega]
    unfold mastheadref14_Bytes.l0
    rw [if_pos (by omega), if_pos (by omega), if_pos (by rw [List.length_map]; omega), hrd]
    have e0 : (toO o).f0 = o.f0 := rfl
    have e1 : (toO o).f1 = strOfNums o.f1 := rfl
    rw [e0, e1, strOfNums_size, hdr]
    by_cases hlo : 64 < o.f1.length
    · rw [if_pos (by omega)]
      have hlg : longs (o :: outs.drop (i + 1)) = true := by unfold longs; rw [List.any_cons, decide_eq_true hlo]; rfl
      rw [hlg, if_pos rfl]
    · have hnm := rnum_tells o.f0.toNat 8 (by omega) (m + 1 + j) (by omega)
      rw [show (o.f0.toNat : Int) = o.f0 by omega, wid8] at hnm
      have hob := outTB_len o (by omega)
      have hlg : longs (o :: outs.drop (i + 1)) = longs (outs.drop (i + 1)) := by unfold longs; rw [List.any_cons, decide_eq_false hlo]; rfl
      have hco : strOfNums (digs 8 o.f0.toNat) ++ strOfNums (varB o.f1.length ++ o.f1) = strOfNums (outTB o) := by rw [← str_append]; rfl
      rw [if_neg (by omega), hnm, rtext_tells o.f1 hol _ (by omega)]
      simp only [Option.bind_some]
      rw [hco, if_pos (by rw [strOfNums_size, strOfNums_size]; unfold outTB at hob; rw [List.length_append] at hob; omega), if_pos (by rw [strOfNums_size, strOfNums_size]; omega), ← str_append, show wrap64 ((i : Int) + 1) = ((i + 1 : Nat) : Int) from (wrap64_id (by omega) (by omega)).trans (by simp), rb_loop outs hv h8 hi9 m (i + 1) j (acc ++ outTB o) (by omega) (by rw [List.length_append]; omega) hj, hlg]
      simp only [List.flatMap_cons, List.append_assoc]
theorem rbytes14_tells (salt : Int) (outs : List OutT) (hs : 0 ≤ salt ∧ salt < 18446744073709551616) (hv : ∀ o ∈ outs, 0 ≤ o.f0 ∧ o.f0 < 18446744073709551616) (hi9 : ∀ o ∈ outs, o.f1.length ≤ 1000000) (hn : outs.length ≤ 1000) :
    mastheadref14_Bytes.f 30 salt (outs.map toO) = some (strOfNums (bytesV salt outs), bytesE salt outs) := by
  unfold mastheadref14_Bytes.f
  rw [List.length_map]
  by_cases h8 : 8 < outs.length
  · have hE : bytesE salt outs = 4 := if_pos h8
    have hV : bytesV salt outs = [] := by unfold bytesV; rw [hE]; rfl
    rw [if_pos (by omega), hE, hV]
    rfl
  · have hnm := rnum_tells salt.toNat 8 (by omega) 30 (by omega)
    rw [show (salt.toNat : Int) = salt by omega, wid8] at hnm
    rw [if_neg (by omega), hnm]
    simp only [Option.bind_some]
    rw [if_pos (by rw [strOfNums_size, digs_length]; decide), u64w_id (by omega) (by omega), rvar_tells outs.length (by omega) 30 (by omega)]
    simp only [Option.bind_some]
    have h1 : (⟨#[1]⟩ : ByteArray) = strOfNums (digs 1 1) := rfl
    have hvl := varB_len outs.length
    have hd1 : (digs 1 1).length = 1 := digs_length 1 1
    have hd8 : (digs 8 salt.toNat).length = 8 := digs_length 8 _
    rw [h1, ← str_append, ← str_append, if_pos (by rw [strOfNums_size, strOfNums_size, List.length_append, hd1, hd8]; omega)]
    have hh : digs 1 1 ++ digs 8 salt.toNat ++ varB outs.length = headB salt outs.length := rfl
    rw [hh]
    have hl := rb_loop outs hv (by omega) hi9 outs.length 0 (29 - outs.length) (headB salt outs.length) (by omega) (by have := headB_len salt outs.length; omega) (by omega)
    rw [show outs.length + 1 + (29 - outs.length) = 30 by omega] at hl
    have hl : mastheadref14_Bytes.l0 30 (strOfNums (headB salt outs.length)) (outs.map toO) (outs.length : Int) 0 = _ := hl
    rw [hl, List.drop_zero]
    have htx : headB salt outs.length ++ outs.flatMap outTB = txB salt outs := rfl
    rw [htx]
    unfold bytesV bytesE
    rw [if_neg h8]
    by_cases hlg : longs outs = true
    · rw [if_pos hlg, if_pos hlg]
      rfl
    · rw [if_neg hlg, if_neg hlg]
      by_cases h64 : (txB salt outs).length = 64
      · rw [if_pos h64, if_pos h64]
        rfl
      · rw [if_neg h64, if_neg h64]
        rfl
end Go.Proofs.YtpjkhecefppamaaDoor.Hand
