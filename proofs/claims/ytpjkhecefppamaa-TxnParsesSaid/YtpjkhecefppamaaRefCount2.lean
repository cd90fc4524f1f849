/- The document's Count and Words: their contracts over lists of bytes. -/
import Derived.Test.YtpjkhecefppamaaProg
import Derived.Below
import Derived.Deep.Draws
import Derived.Deep.AppendLies
import Derived.Maps.AppendAt
import Derived.OwnWalk
import Derived.Laws.BytesArg
import Derived.Laws.MakeOwn
import Derived.Laws.OwnMore
import Derived.Deep.OwnRows
import Derived.Tactics
import Derived.Lib.ConvBytes
import Derived.Laws.Slices
import Derived.WalkKit
import Derived.KernelRfl
import Derived.RowKit3
import Derived.Deep.LoopGhost
import Derived.Deep.QuietTactic
import Derived.BigQuiet
import Derived.WideLaws
import Derived.Deep.DeepCutAuto
import Derived.Deep.CutBlock
import Derived.Deep.RegionHeld3
import Derived.Laws.Rows
import Derived.Lib.AppendStr
import Derived.ArgAppend
import Derived.Laws.IdiomCopy
import Derived.OrdersHeld
import Derived.Laws.BitsLemmas
import Derived.RowKit
import Derived.StillTailTactics
import Derived.Test.YtpjkhecefppamaaWWords
import Derived.Test.YtpjkhecefppamaaWLast
import Derived.Test.YtpjkhecefppamaaWMore
import Derived.Lib.Hide
import Derived.Outline
import Derived.Test.YtpjkhecefppamaaRefCount
import Derived.Test.YtpjkhecefppamaaRef
namespace Go.Proofs.Ytpjkhecefppamaa.Hand
open Go Go.RowKit Go.Proofs.Ytpjkhecefppamaa.Plain Go.Proofs.Ytpjkhecefppamaa.PAll Go.Proofs.YtpjkhecefppamaaW.PrintWords Go.Proofs.YtpjkhecefppamaaW.PrintLast Go.Proofs.YtpjkhecefppamaaW.PrintMore
set_option linter.unusedVariables false
set_option linter.unusedSimpArgs false
theorem str_head {b : Int} {t : List Int} (hb : 0 ≤ b ∧ b < 256) : ∀ h : 0 < (strOfNums (b :: t)).size, (((strOfNums (b :: t))[0]'h).toNat : Int) = b := by
  intro h
  simp [strOfNums, ByteArray.getElem_eq_getElem_data]
  omega
theorem varR_e {bs : List Int} {p : Nat} {e most : Int} (he : e ≠ 0) : varR bs p e most = (0, p, e) := by
  have h1 : takeR bs p e (wid 1 : Nat) = ([], p, e) := by unfold takeR; rw [if_pos he]
  have h2 : numR bs p e 1 = (0, p, e) := by unfold numR; rw [h1]; rfl
  have h3 : spellR bs p e = (0, 0, p, e) := by unfold spellR; rw [h2]; rfl
  unfold varR
  rw [h3]
  unfold var2
  exact if_pos he
theorem rcount_calls (xs : List Int) (e most : Int) (hl : xs.length ≤ 1000000) (hb : ∀ x ∈ xs, 0 ≤ x ∧ x < 256) (w : World) : Calls Try.prog 28 #[.agg #[.string (strOfNums xs), .int .i64 e], .int .u64 most] w fun x w' => x = .returned (.tuple #[.agg #[.string (strOfNums (xs.drop (varR xs 0 e most).2.1)), .int .i64 (varR xs 0 e most).2.2], .int .u64 (varR xs 0 e most).1]) ∧ Below w.heap.size w w' := by
  by_cases he : e = 0
  · subst he
    cases xs with
    | nil =>
      have hv : varR [] 0 0 most = (0, 0, 2) := by
        rw [varR_count [] 0 (Nat.zero_le _) most]
        rfl
      rw [hv]
      exact rcount_none _ most rfl w
    | cons b t =>
      have hb0 := hb b (by simp)
      have ht : ∀ x ∈ t, 0 ≤ x ∧ x < 256 := fun x hx => hb x (by simp [hx])
      have hsz : (strOfNums (b :: t)).size = t.length + 1 := by rw [strOfNums_size]; rfl
      have hh := str_head (t := t) hb0
      have hc := varR_count (b :: t) 0 (Nat.zero_le _) most
      simp only [List.drop_zero, countS, Nat.zero_add] at hc
      rw [hc]
      have hsp := spelt (t := t) hb0 ht
      have hbt1 : ∀ x ∈ (b :: t).take (1 + wof b), 0 ≤ x ∧ x < 256 := fun x hx => hb x (List.mem_of_mem_take hx)
      by_cases t1 : b = 253
      · have b1 : (b == 253) = true := beq_iff_eq.2 t1
        have e1 : wof b = 2 := by unfold wof; rw [if_pos t1]
        rw [e1] at hsp hbt1 ⊢
        by_cases c1 : t.length < 2
        · rw [if_pos c1]
          exact rcount_short2 _ b most (by omega) hh b1 (by omega) w
        · rw [if_neg c1]
          have hn := hsp (by omega)
          obtain ⟨n, hn2⟩ := Int.eq_ofNat_of_zero_le hn.2.1
          rw [hn2] at hn ⊢
          rw [Int.toNat_natCast] at hn
          have hl2 : (t.take 2).length = 2 := by rw [List.length_take]; omega
          have hval : val (t.take 2) = (n : Int) := by rw [← hn2]; unfold cnum; rw [e1, if_neg (by decide)]
          have hlb : ∀ x ∈ (t.take 2), 0 ≤ x ∧ x < 256 := fun x hx => ht x (List.mem_of_mem_take hx)
          have hx : (strOfNums (b :: t)).extract 1 3 = strOfNums (t.take 2) := by rw [str_extract]; rfl
          have hiff : strOfNums (varB n) = (strOfNums ((b :: t).take 3)) ↔ lof b ≤ (n : Int) := ⟨fun h => hn.1.2 (str_inj (varB_bytes n) hbt1 h), fun h => congrArg strOfNums (hn.1.1 h)⟩
          by_cases c2 : (n : Int) < lof b
          · rw [if_pos c2]
            exact rcount_bad2 _ b most (by omega) hh b1 (t.take 2) hlb hl2 n (by omega) hval hx (by omega) _ rfl (strOfNums ((b :: t).take 3)) (by rw [str_extract]; rfl) (fun h => by have := hiff.1 h; omega) w
          · rw [if_neg c2]
            have heq := hiff.2 (by omega)
            by_cases c3 : most < (n : Int)
            · rw [if_pos c3]
              exact rcount_big2 _ b most (by omega) hh b1 (t.take 2) hlb hl2 n (by omega) hval hx (by omega) _ rfl (strOfNums ((b :: t).take 3)) (by rw [str_extract]; rfl) heq c3 w
            · rw [if_neg c3]
              have he : strOfNums ((b :: t).drop (1 + 2)) = (strOfNums (b :: t)).extract 3 (strOfNums (b :: t)).size := by
                rw [str_extract, strOfNums_size]
                congr 1
                rw [List.take_of_length_le (by simp)]
              rw [he]
              exact rcount_ok2 _ b most (by omega) hh b1 (t.take 2) hlb hl2 n (by omega) hval hx (by omega) _ rfl (strOfNums ((b :: t).take 3)) (by rw [str_extract]; rfl) heq (by omega) w
      · have b1 : (b == 253) = false := beq_eq_false_iff_ne.2 t1
        by_cases t2 : b = 254
        · have b2 : (b == 254) = true := beq_iff_eq.2 t2
          have e1 : wof b = 4 := by unfold wof; rw [if_neg t1, if_pos t2]
          rw [e1] at hsp hbt1 ⊢
          by_cases c1 : t.length < 4
          · rw [if_pos c1]
            exact rcount_short4 _ b most (by omega) hh b1 b2 (by omega) w
          · rw [if_neg c1]
            have hn := hsp (by omega)
            obtain ⟨n, hn2⟩ := Int.eq_ofNat_of_zero_le hn.2.1
            rw [hn2] at hn ⊢
            rw [Int.toNat_natCast] at hn
            have hl2 : (t.take 4).length = 4 := by rw [List.length_take]; omega
            have hval : val (t.take 4) = (n : Int) := by rw [← hn2]; unfold cnum; rw [e1, if_neg (by decide)]
            have hlb : ∀ x ∈ (t.take 4), 0 ≤ x ∧ x < 256 := fun x hx => ht x (List.mem_of_mem_take hx)
            have hx : (strOfNums (b :: t)).extract 1 5 = strOfNums (t.take 4) := by rw [str_extract]; rfl
            have hiff : strOfNums (varB n) = (strOfNums ((b :: t).take 5)) ↔ lof b ≤ (n : Int) := ⟨fun h => hn.1.2 (str_inj (varB_bytes n) hbt1 h), fun h => congrArg strOfNums (hn.1.1 h)⟩
            by_cases c2 : (n : Int) < lof b
            · rw [if_pos c2]
              exact rcount_bad4 _ b most (by omega) hh b1 b2 (t.take 4) hlb hl2 n (by omega) hval hx (by omega) _ rfl (strOfNums ((b :: t).take 5)) (by rw [str_extract]; rfl) (fun h => by have := hiff.1 h; omega) w
            · rw [if_neg c2]
              have heq := hiff.2 (by omega)
              by_cases c3 : most < (n : Int)
              · rw [if_pos c3]
                exact rcount_big4 _ b most (by omega) hh b1 b2 (t.take 4) hlb hl2 n (by omega) hval hx (by omega) _ rfl (strOfNums ((b :: t).take 5)) (by rw [str_extract]; rfl) heq c3 w
              · rw [if_neg c3]
                have he : strOfNums ((b :: t).drop (1 + 4)) = (strOfNums (b :: t)).extract 5 (strOfNums (b :: t)).size := by
                  rw [str_extract, strOfNums_size]
                  congr 1
                  rw [List.take_of_length_le (by simp)]
                rw [he]
                exact rcount_ok4 _ b most (by omega) hh b1 b2 (t.take 4) hlb hl2 n (by omega) hval hx (by omega) _ rfl (strOfNums ((b :: t).take 5)) (by rw [str_extract]; rfl) heq (by omega) w
        · have b2 : (b == 254) = false := beq_eq_false_iff_ne.2 t2
          by_cases t3 : b = 255
          · have b3 : (b == 255) = true := beq_iff_eq.2 t3
            have e1 : wof b = 8 := by unfold wof; rw [if_neg t1, if_neg t2, if_pos t3]
            rw [e1] at hsp hbt1 ⊢
            by_cases c1 : t.length < 8
            · rw [if_pos c1]
              exact rcount_short8 _ b most (by omega) hh b1 b2 b3 (by omega) w
            · rw [if_neg c1]
              have hn := hsp (by omega)
              obtain ⟨n, hn2⟩ := Int.eq_ofNat_of_zero_le hn.2.1
              rw [hn2] at hn ⊢
              rw [Int.toNat_natCast] at hn
              have hl2 : (t.take 8).length = 8 := by rw [List.length_take]; omega
              have hval : val (t.take 8) = (n : Int) := by rw [← hn2]; unfold cnum; rw [e1, if_neg (by decide)]
              have hlb : ∀ x ∈ (t.take 8), 0 ≤ x ∧ x < 256 := fun x hx => ht x (List.mem_of_mem_take hx)
              have hx : (strOfNums (b :: t)).extract 1 9 = strOfNums (t.take 8) := by rw [str_extract]; rfl
              have hiff : strOfNums (varB n) = (strOfNums ((b :: t).take 9)) ↔ lof b ≤ (n : Int) := ⟨fun h => hn.1.2 (str_inj (varB_bytes n) hbt1 h), fun h => congrArg strOfNums (hn.1.1 h)⟩
              by_cases c2 : (n : Int) < lof b
              · rw [if_pos c2]
                exact rcount_bad8 _ b most (by omega) hh b1 b2 b3 (t.take 8) hlb hl2 n (by omega) hval hx (by omega) _ rfl (strOfNums ((b :: t).take 9)) (by rw [str_extract]; rfl) (fun h => by have := hiff.1 h; omega) w
              · rw [if_neg c2]
                have heq := hiff.2 (by omega)
                by_cases c3 : most < (n : Int)
                · rw [if_pos c3]
                  exact rcount_big8 _ b most (by omega) hh b1 b2 b3 (t.take 8) hlb hl2 n (by omega) hval hx (by omega) _ rfl (strOfNums ((b :: t).take 9)) (by rw [str_extract]; rfl) heq c3 w
                · rw [if_neg c3]
                  have he : strOfNums ((b :: t).drop (1 + 8)) = (strOfNums (b :: t)).extract 9 (strOfNums (b :: t)).size := by
                    rw [str_extract, strOfNums_size]
                    congr 1
                    rw [List.take_of_length_le (by simp)]
                  rw [he]
                  exact rcount_ok8 _ b most (by omega) hh b1 b2 b3 (t.take 8) hlb hl2 n (by omega) hval hx (by omega) _ rfl (strOfNums ((b :: t).take 9)) (by rw [str_extract]; rfl) heq (by omega) w
          · have b3 : (b == 255) = false := beq_eq_false_iff_ne.2 t3
            have e1 : wof b = 0 := by unfold wof; rw [if_neg t1, if_neg t2, if_neg t3]
            rw [e1] at hsp hbt1 ⊢
            rw [if_neg (by omega)]
            have hn := hsp (by omega)
            obtain ⟨n, hn2⟩ := Int.eq_ofNat_of_zero_le hn.2.1
            rw [hn2] at hn ⊢
            rw [Int.toNat_natCast] at hn
            have hl2 : [b].length = 1 := rfl
            have hval : val [b] = (n : Int) := by rw [← hn2]; unfold cnum; rw [e1, if_pos rfl]; simp [val]
            have hlb : ∀ x ∈ [b], 0 ≤ x ∧ x < 256 := by simpa using hb0
            have hx : (strOfNums (b :: t)).extract 0 1 = strOfNums [b] := by rw [str_extract]; rfl
            have hiff : strOfNums (varB n) = (strOfNums [b]) ↔ lof b ≤ (n : Int) := ⟨fun h => hn.1.2 (str_inj (varB_bytes n) hbt1 h), fun h => congrArg strOfNums (hn.1.1 h)⟩
            by_cases c2 : (n : Int) < lof b
            · rw [if_pos c2]
              exact rcount_bad0 _ b most (by omega) hh b1 b2 b3 [b] hlb hl2 n (by omega) hval hx (by omega) _ rfl (strOfNums [b]) rfl (fun h => by have := hiff.1 h; omega) w
            · rw [if_neg c2]
              have heq := hiff.2 (by omega)
              by_cases c3 : most < (n : Int)
              · rw [if_pos c3]
                exact rcount_big0 _ b most (by omega) hh b1 b2 b3 [b] hlb hl2 n (by omega) hval hx (by omega) _ rfl (strOfNums [b]) rfl heq c3 w
              · rw [if_neg c3]
                have he : strOfNums ((b :: t).drop (1 + 0)) = (strOfNums (b :: t)).extract 1 (strOfNums (b :: t)).size := by
                  rw [str_extract, strOfNums_size]
                  congr 1
                  rw [List.take_of_length_le (by simp)]
                rw [he]
                exact rcount_ok0 _ b most (by omega) hh b1 b2 b3 [b] hlb hl2 n (by omega) hval hx (by omega) _ rfl (strOfNums [b]) rfl heq (by omega) w
  · rw [varR_e he]
    exact rcount_err _ e most he w
end Go.Proofs.Ytpjkhecefppamaa.Hand
