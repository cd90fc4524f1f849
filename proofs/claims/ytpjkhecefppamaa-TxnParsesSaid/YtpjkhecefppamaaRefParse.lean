/- The document's parsing of a transaction: walked. -/
import Derived.Test.YtpjkhecefppamaaProg
import Derived.Below
import Derived.Deep.Draws
import Derived.Deep.AppendLies
import Derived.Maps.AppendAt
import Derived.OwnWalk
import Derived.Laws.BytesArg
import Derived.Laws.MakeOwn
import Derived.Laws.OwnMore
import Derived.Deep.OwnRows
import Derived.Tactics
import Derived.Lib.ConvBytes
import Derived.Laws.Slices
import Derived.WalkKit
import Derived.KernelRfl
import Derived.RowKit3
import Derived.Deep.LoopGhost
import Derived.Deep.QuietTactic
import Derived.BigQuiet
import Derived.WideLaws
import Derived.Deep.DeepCutAuto
import Derived.Deep.CutBlock
import Derived.Deep.RegionHeld3
import Derived.Laws.Rows
import Derived.Lib.AppendStr
import Derived.ArgAppend
import Derived.Laws.IdiomCopy
import Derived.OrdersHeld
import Derived.Laws.BitsLemmas
import Derived.RowKit
import Derived.StillTailTactics
import Derived.Test.YtpjkhecefppamaaWWords
import Derived.Test.YtpjkhecefppamaaWLast
import Derived.Test.YtpjkhecefppamaaWMore
import Derived.Lib.Hide
import Derived.LaidEql
import Derived.Outline
import Derived.Deep.RegionLaw
import Derived.Deep.DrawnRows
import Derived.Test.YtpjkhecefppamaaParsePlain
import Derived.Test.YtpjkhecefppamaaRefAt
namespace Go.Proofs.Ytpjkhecefppamaa.Hand
open Go Go.RowKit Go.Proofs.Ytpjkhecefppamaa.Plain Go.Proofs.Ytpjkhecefppamaa.PAll Go.Proofs.YtpjkhecefppamaaW.PrintWords Go.Proofs.YtpjkhecefppamaaW.PrintLast Go.Proofs.YtpjkhecefppamaaW.PrintMore
set_option linter.unusedVariables false
set_option linter.unusedSimpArgs false
section
/-- What is left lies in block bx, the transaction under way in bt, the answer's place is br. -/
def IsU (w0 w : World) (br bx bt : Nat) (s : ByteArray) (e salt : Int) (u : Value) (acc : List S56) (Q : Nat → Prop) : Prop :=
  w.heap[bx]? = some (.cells #[.string s, .int .i64 e] 69 (0, 0)) ∧ w.heap[bt]? = some (.cells #[.int .u64 salt, u] 35 (0, 0)) ∧ w.heap[br]? = some (.cells #[.int .u64 0, .slice none 0 0] 35 (0, 0)) ∧ Kd.R k56 56 w w0.heap.size Q u acc ∧ Below w0.heap.size w0 w ∧ w0.heap.size ≤ br ∧ br < bx ∧ bx < bt
variable {w0 w w' : World} {br bx bt : Nat} {s s' : ByteArray} {e e' salt : Int} {u : Value} {acc : List S56} {Q Q' : Nat → Prop}
theorem IsU.lt (h : IsU w0 w br bx bt s e salt u acc Q) : bt < w.heap.size := blk_lt h.2.1
theorem IsU.mono (h : IsU w0 w br bx bt s e salt u acc Q) (hq : ∀ k, Q k → Q' k) : IsU w0 w br bx bt s e salt u acc Q' := by
  obtain ⟨h1, h2, h3, h4, h5⟩ := h
  exact ⟨h1, h2, h3, Kd.R_mono h4 hq, h5⟩
theorem IsU.bound (h : IsU w0 w br bx bt s e salt u acc Q) : IsU w0 w br bx bt s e salt u acc (fun k => k < w.heap.size) := by
  obtain ⟨h1, h2, h3, h4, h5⟩ := h
  exact ⟨h1, h2, h3, Kd.R_mono (Kd.R_bound h4) (fun k hk => hk.2.2.1), h5⟩
theorem IsU.below (h : IsU w0 w br bx bt s e salt u acc Q) (hb : Below w.heap.size w w') : IsU w0 w' br bx bt s e salt u acc Q := by
  obtain ⟨h1, h2, h3, h4, h5, h6⟩ := h
  exact ⟨(hb.block bx (blk_lt h1)).trans h1, (hb.block bt (blk_lt h2)).trans h2, (hb.block br (blk_lt h3)).trans h3, Kd.R_below h4 hb, h5.trans (Below.mono hb h5.size), h6⟩
theorem IsU.setX (h : IsU w0 w br bx bt s e salt u acc Q) (s' : ByteArray) (e' : Int) : IsU w0 ((w.setCell ⟨bx, 0, none⟩ (.string s')).setCell ⟨bx, 1, none⟩ (.int .i64 e')) br bx bt s' e' salt u acc Q := by
  obtain ⟨h1, h2, h3, h4, h5, h6, h7, h8⟩ := h
  have hs := blk_set h1 0 (.string s')
  refine ⟨blk_set hs 1 (.int .i64 e'), ?_, ?_, Kd.R_set (Kd.R_set h4 h1 (by decide) 0 _) hs (by decide) 1 _, (h5.setCell (p := ⟨bx, 0, none⟩) (by show w0.heap.size ≤ bx; omega) _).setCell (p := ⟨bx, 1, none⟩) (by show w0.heap.size ≤ bx; omega) _, h6, h7, h8⟩
  · rw [Below.heap_setCell _ ⟨bx, 1, none⟩ _ bt (by show bt ≠ bx; omega), Below.heap_setCell _ ⟨bx, 0, none⟩ _ bt (by show bt ≠ bx; omega)]; exact h2
  · rw [Below.heap_setCell _ ⟨bx, 1, none⟩ _ br (by show br ≠ bx; omega), Below.heap_setCell _ ⟨bx, 0, none⟩ _ br (by show br ≠ bx; omega)]; exact h3
theorem IsU.setT (h : IsU w0 w br bx bt s e salt u acc Q) (x : Int) : IsU w0 (w.setCell ⟨bt, 0, none⟩ (.int .u64 x)) br bx bt s e x u acc Q := by
  obtain ⟨h1, h2, h3, h4, h5, h6, h7, h8⟩ := h
  refine ⟨?_, blk_set h2 0 _, ?_, Kd.R_set h4 h2 (by decide) 0 _, h5.setCell (p := ⟨bt, 0, none⟩) (by show w0.heap.size ≤ bt; omega) _, h6, h7, h8⟩
  · rw [Below.heap_setCell _ ⟨bt, 0, none⟩ _ bx (by show bx ≠ bt; omega)]; exact h1
  · rw [Below.heap_setCell _ ⟨bt, 0, none⟩ _ br (by show br ≠ bt; omega)]; exact h3
theorem IsU.far (h : IsU w0 w br bx bt s e salt u acc Q) {b : Nat} (hb : bt < b) (hq : ∀ k, Q k → k ≠ b) (j : Nat) (x : Value) : IsU w0 (w.setCell ⟨b, j, none⟩ x) br bx bt s e salt u acc Q := by
  obtain ⟨h1, h2, h3, h4, h5, h6, h7, h8⟩ := h
  refine ⟨?_, ?_, ?_, Kd.R_far (p := ⟨b, j, none⟩) h4 (fun k hk => hq k hk) x, h5.setCell (p := ⟨b, j, none⟩) (by show w0.heap.size ≤ b; omega) x, h6, h7, h8⟩
  · rw [Below.heap_setCell _ ⟨b, j, none⟩ _ bx (by show bx ≠ b; omega)]; exact h1
  · rw [Below.heap_setCell _ ⟨b, j, none⟩ _ bt (by show bt ≠ b; omega)]; exact h2
  · rw [Below.heap_setCell _ ⟨b, j, none⟩ _ br (by show br ≠ b; omega)]; exact h3
theorem IsU.push (h : IsU w0 w br bx bt s e salt u acc Q) {v1 : Value} {acc' : List S56} (hR : Kd.R k56 56 w' w0.heap.size (fun _ => True) v1 acc') (hb : Below w0.heap.size w w') (hg : w.grownBy w' u.ownBlock) :
    w'.cell? ⟨bt, 1, none⟩ = some u ∧ w'.frozen? ⟨bt, 1, none⟩ = false ∧ IsU w0 (w'.setCell ⟨bt, 1, none⟩ v1) br bx bt s e salt v1 acc' (fun _ => True) := by
  obtain ⟨h1, h2, h3, h4, h5, h6, h7, h8⟩ := h
  have hgt := (hg.block bt (blk_lt h2) (Kd.R_ne h4 h2 (by decide))).trans h2
  have hgx := (hg.block bx (blk_lt h1) (Kd.R_ne h4 h1 (by decide))).trans h1
  have hgr := (hg.block br (blk_lt h3) (Kd.R_ne h4 h3 (by decide))).trans h3
  refine ⟨(blk_cell hgt 1).trans rfl, blk_frozen hgt _, ?_, blk_set hgt 1 v1, ?_, Kd.R_set hR hgt (by decide) 1 v1, (h5.trans hb).setCell (p := ⟨bt, 1, none⟩) (by show w0.heap.size ≤ bt; omega) v1, h6, h7, h8⟩
  · rw [Below.heap_setCell _ ⟨bt, 1, none⟩ _ bx (by show bx ≠ bt; omega)]; exact hgx
  · rw [Below.heap_setCell _ ⟨bt, 1, none⟩ _ br (by show br ≠ bt; omega)]; exact hgr
end
attribute [local go_sem ↓] Go.wp_at_zero Go.wp_at_succ
/-- What is left behind a place. -/
def tl (bs : List Int) (p : Nat) : ByteArray := strOfNums (bs.drop p)
theorem tl_size (bs : List Int) (p : Nat) : (tl bs p).size = bs.length - p := by simp [tl, strOfNums, ByteArray.size]
section
variable (bs : List Int) (p : Nat) (hp : p ≤ bs.length) (e a : Int) (hl : bs.length ≤ 1000000) (hb : ∀ x ∈ bs, 0 ≤ x ∧ x < 256) (w : World)
include hp hl hb
theorem unum : Calls Try.prog 27 #[.agg #[.string (tl bs p), .int .i64 e], .int .i64 a] w fun x w' => x = .returned (.tuple #[.agg #[.string (tl bs (numR bs p e a).2.1), .int .i64 (numR bs p e a).2.2], .int .u64 (numR bs p e a).1]) ∧ Below w.heap.size w w' := rnumber_at bs p hp e a hl hb w
theorem ucount : Calls Try.prog 28 #[.agg #[.string (tl bs p), .int .i64 e], .int .u64 a] w fun x w' => x = .returned (.tuple #[.agg #[.string (tl bs (varR bs p e a).2.1), .int .i64 (varR bs p e a).2.2], .int .u64 (varR bs p e a).1]) ∧ Below w.heap.size w w' := rcount_at bs p hp e a hl hb w
theorem uwords (ha : a ≤ 9223372036854775807) : Calls Try.prog 29 #[.agg #[.string (tl bs p), .int .i64 e], .int .i64 a] w fun x w' => x = .returned (.tuple #[.agg #[.string (tl bs (textR bs p e a).2.1), .int .i64 (textR bs p e a).2.2], .string (strOfNums (textR bs p e a).1)]) ∧ Below w.heap.size w w' := rwords_at bs p hp e a hl hb w ha
end
theorem infoR : (Try.prog.info? 56).map (fun i => (i.zero, i.size, i.bytes)) = some (some (.agg #[.int .u64 0, .string ⟨#[]⟩]), 2, 24) := by kernel_rfl
set_option maxHeartbeats 4000000 in
set_option maxRecDepth 100000 in
theorem uparse_calls (bs : List Int) (w : World) (hb : ∀ x ∈ bs, 0 ≤ x ∧ x < 256) (hl : bs.length ≤ 1000000) :
    Calls Try.prog 14 #[.string (tl bs 0)] w fun x w' => ∃ v, x = .returned (.tuple #[.agg #[.int .u64 (parseS bs), v], .int .i64 (parseE bs)]) ∧ Kd.R k56 56 w' w.heap.size (fun _ => True) v ((parseO bs).map toO) ∧ Below w.heap.size w w' := by
  have HBY := Lib.hid hb
  have HL := Lib.hid hl
  obtain ⟨E, hE⟩ : ∃ E, parseE bs = E := ⟨_, rfl⟩
  obtain ⟨S, hS⟩ : ∃ S, parseS bs = S := ⟨_, rfl⟩
  obtain ⟨O, hO⟩ : ∃ O, (parseO bs).map toO = O := ⟨_, rfl⟩
  rw [hE, hS, hO]
  have HE : Hid (E = if badR bs then 3 else endE bs) := Lib.hid hE.symm
  have HS : Hid (S = if badR bs then 0 else if endE bs = 0 then (sR bs).1 else 0) := Lib.hid hS.symm
  have HO : Hid (O = (if badR bs then [] else if endE bs = 0 then (oR bs).1 else []).map toO) := Lib.hid hO.symm
  have hsz : (tl bs 0).size = bs.length := by rw [tl_size]; omega
  obtain ⟨n, hn⟩ : ∃ n, bs.length = n := ⟨_, rfl⟩
  have HN := Lib.hid hn
  rw [hn] at hsz
  have HNUM := Lib.hid (fun W => unum bs 0 (Nat.zero_le _) 0 1 HL.out HBY.out W)
  obtain ⟨T0, hT0⟩ : ∃ T, tl bs 0 = T := ⟨_, rfl⟩
  rw [hT0] at hsz HNUM ⊢
  have HB1 := Lib.hid (below_alloc (Below.refl w.heap.size w) (.cells #[.int .u64 0, .slice none 0 0] 35))
  have HK1 := Lib.hid (show (w.alloc (.cells #[.int .u64 0, .slice none 0 0] 35)).heap[w.heap.size]? = some (.cells #[.int .u64 0, .slice none 0 0] 35 (0, 0)) by simpa using heap_alloc_new w _)
  clear hb hl hE hS hO hn hT0
  by_cases h64 : n = 64
  · have hbad : badR bs = true := by unfold badR; rw [HN.out, decide_eq_true h64]; rfl
    have hE := HE.out
    have hS := HS.out
    have hO := HO.out
    rw [if_pos hbad] at hE hS hO
    have HR4 := HK1
    have HB4 := HB1
    subst hE
    subst hS
    subst hO
    subst h64
    clear HE HS HO HN HNUM hbad
    go_enter Try.func14, Try.ntmps14
    go_wp2_with fail
    exact bodyPost_ret (results_ct rfl _ _ w.heap.size 35 #[.int .u64 0, .slice none 0 0] (0, 0) _ rfl HR4.out Try.underlying35 rfl (by kernel_rfl)) rfl ⟨_, rfl, Kd.R_nil _ _ _ _ _, HB4.out⟩
  · have n1 : ((n : Int) = 64) = False := eq_false (by omega)
    have n2 : ((n : Int) == 64) = false := by simp; omega
    have n3 : (n = 64) = False := eq_false h64
    go_enter Try.func14, Try.ntmps14
    go_wp2_with fail
    with_reducible refine (HNUM.out _).mono ?_
    rintro x w2 ⟨rfl, hb2⟩
    rw [show numR bs 0 0 1 = aR bs from rfl]
    have HB2 := Lib.hid (HB1.out.trans (Below.mono hb2 HB1.out.size))
    have HK2 := Lib.hid ((hb2.block w.heap.size (blk_lt HK1.out)).trans HK1.out)
    have HLT2 := Lib.hid (blk_lt HK2.out)
    obtain ⟨a1, ha1⟩ : ∃ a, (aR bs).1 = a := ⟨_, rfl⟩
    obtain ⟨a2, ha2⟩ : ∃ a, (aR bs).2.1 = a := ⟨_, rfl⟩
    obtain ⟨a3, ha3⟩ : ∃ a, (aR bs).2.2 = a := ⟨_, rfl⟩
    rw [ha1, ha2, ha3]
    have HA := Lib.hid (And.intro ha1 (And.intro ha2 ha3))
    obtain ⟨T2, hT2⟩ : ∃ T, tl bs a2 = T := ⟨_, rfl⟩
    rw [hT2]
    have HT2 := Lib.hid hT2
    clear hb2 HB1 HK1 ha1 ha2 ha3 hT2 HNUM
    by_cases hbad : badR bs = true
    · have hE := HE.out
      have hS := HS.out
      have hO := HO.out
      rw [if_pos hbad] at hE hS hO
      unfold badR at hbad
      rw [HN.out, HA.out.1, HA.out.2.2, decide_eq_false h64, Bool.false_or, Bool.and_eq_true] at hbad
      have h3 : a3 = 0 := by simpa using hbad.1
      have h1 : a1 ≠ 1 := by simpa using hbad.2
      have m1 : (a1 = 1) = False := eq_false h1
      have m2 : (a1 == 1) = false := by simpa using h1
      have m3 : (a1 != 1) = true := by simpa using h1
      have HK3 := Lib.hid (blk_alloc HK2.out (.cells #[.string T2, .int .i64 0] 69))
      have HB3 := Lib.hid (below_alloc HB2.out (.cells #[.string T2, .int .i64 0] 69))
      have HR4 := Lib.hid (blk_set (blk_set HK3.out 0 (.int .u64 0)) 1 (.slice none 0 0))
      have HB4 := Lib.hid ((HB3.out.setCell (p := ⟨w.heap.size, 0, none⟩) (Nat.le_refl _) (.int .u64 0)).setCell (p := ⟨w.heap.size, 1, none⟩) (Nat.le_refl _) (.slice none 0 0))
      have c0 := blk_cell HK3.out 0
      have c1 := blk_cell HK3.out 1
      have f0 := blk_frozen HK3.out 0
      have f1 := blk_frozen HK3.out 1
      simp only [List.getElem?_toArray, List.getElem?_cons_zero, List.getElem?_cons_succ] at c0 c1
      have hne : w.heap.size ≠ w2.heap.size := by have := HLT2.out; omega
      subst hE
      subst hS
      subst hO
      subst h3
      clear HE HS HO HN HA hbad h64 h1 HT2
      go_wp2_with fail
      exact bodyPost_ret (results_ct rfl _ _ w.heap.size 35 #[.int .u64 0, .slice none 0 0] (0, 0) _ rfl HR4.out Try.underlying35 rfl (by kernel_rfl)) rfl ⟨_, rfl, Kd.R_nil _ _ _ _ _, HB4.out⟩
    · have hE : E = endE bs := by rw [HE.out, if_neg hbad]
      have hS : S = if endE bs = 0 then (sR bs).1 else 0 := by rw [HS.out, if_neg hbad]
      have hO : O = (if endE bs = 0 then (oR bs).1 else []).map toO := by rw [HO.out, if_neg hbad]
      have HE2 := Lib.hid hE
      have HS2 := Lib.hid hS
      have HO2 := Lib.hid hO
      unfold badR at hbad
      rw [HN.out, HA.out.1, HA.out.2.2] at hbad
      have hok : a3 ≠ 0 ∨ (a3 = 0 ∧ a1 = 1) := by
        by_cases h3 : a3 = 0
        · by_cases h1 : a1 = 1
          · exact .inr ⟨h3, h1⟩
          · exact absurd (by rw [decide_eq_true h3, decide_eq_true h1]; simp) hbad
        · exact .inl h3
      have hlt2 := HLT2.out
      have HU4 := Lib.hid (show IsU w ((w2.alloc (.cells #[.string T2, .int .i64 a3] 69)).alloc (.cells #[.int .u64 0, .slice none 0 0] 35)) w.heap.size w2.heap.size (w2.heap.size + 1) T2 a3 0 (.slice none 0 0) [] (fun _ => True) from by
        have h1 : (w2.alloc (.cells #[.string T2, .int .i64 a3] 69)).heap[w2.heap.size]? = some (.cells #[.string T2, .int .i64 a3] 69 (0, 0)) := by simpa using heap_alloc_new w2 _
        have h2 := heap_alloc_new (w2.alloc (.cells #[.string T2, .int .i64 a3] 69)) (.cells #[.int .u64 0, .slice none 0 0] 35)
        rw [World.size_alloc] at h2
        exact ⟨blk_alloc h1 _, h2, blk_alloc (blk_alloc HK2.out _) _, Kd.R_nil _ _ _ _ _, below_alloc (below_alloc HB2.out _) _, Nat.le_refl _, hlt2, by omega⟩)
      have HNUM := Lib.hid (fun W => unum bs (aR bs).2.1 (aR_le bs) (aR bs).2.2 8 HL.out HBY.out W)
      rw [HA.out.2.1, HA.out.2.2, HT2.out] at HNUM
      have hsr : numR bs a2 a3 8 = sR bs := by rw [← HA.out.2.1, ← HA.out.2.2]; rfl
      rw [hsr] at HNUM
      have HCNT := Lib.hid (fun W => ucount bs (sR bs).2.1 (sR_le bs) (sR bs).2.2 8 HL.out HBY.out W)
      rw [show varR bs (sR bs).2.1 (sR bs).2.2 8 = nR bs from rfl] at HCNT
      obtain ⟨s1, hs1⟩ : ∃ a, (sR bs).1 = a := ⟨_, rfl⟩
      obtain ⟨s3, hs3⟩ : ∃ a, (sR bs).2.2 = a := ⟨_, rfl⟩
      obtain ⟨T3, hT3⟩ : ∃ a, tl bs (sR bs).2.1 = a := ⟨_, rfl⟩
      rw [hs1, hs3, hT3] at HNUM
      rw [hs3, hT3] at HCNT
      have HS1 := Lib.hid hs1
      obtain ⟨m, hm⟩ : ∃ a, (nR bs).1 = a := ⟨_, rfl⟩
      obtain ⟨m3, hm3⟩ : ∃ a, (nR bs).2.2 = a := ⟨_, rfl⟩
      obtain ⟨T4, hT4⟩ : ∃ a, tl bs (nR bs).2.1 = a := ⟨_, rfl⟩
      have hnl := nR_le HBY.out
      rw [hm] at hnl
      have HM := Lib.hid hnl
      have HOR := Lib.hid (show oR bs = outsR bs m.toNat (nR bs).2.1 (nR bs).2.2 by rw [← hm]; rfl)
      rw [hm, hm3, hT4] at HCNT
      have HM3 := Lib.hid hm3
      have HT4 := Lib.hid hT4
      obtain ⟨bx, hbx⟩ : ∃ b, w2.heap.size = b := ⟨_, rfl⟩
      have HBX := Lib.hid hbx
      clear hE hS hO hbad HE HS HO h64 hlt2 hsr hs1 hs3 hT3 hm hm3 hT4 hnl HA HN HT2 hbx
      cases hok
      case' inl h3 =>
        have m1 : (a3 = 0) = False := eq_false h3
        have m2 : (a3 == 0) = false := by simpa using h3
        clear h3
        go_wp2_with fail
      case' inr h3 =>
        obtain ⟨rfl, rfl⟩ := h3
        go_wp2_with fail
      all_goals
        with_reducible refine (HNUM.out _).mono ?_
        rintro x w5 ⟨rfl, hb5⟩
        have HU5 := Lib.hid (HU4.out.below hb5)
        rw [HBX.out] at HU5 ⊢
        obtain ⟨bt, hbt⟩ : ∃ b, bx + 1 = b := ⟨_, rfl⟩
        rw [hbt] at HU5 ⊢
        have hne1 : bt ≠ bx := by omega
        have hne2 : bx ≠ bt := by omega
        have c0 := blk_cell HU5.out.1 0
        have c1 := blk_cell HU5.out.1 1
        have f0 := blk_frozen HU5.out.1 0
        have f1 := blk_frozen HU5.out.1 1
        have d0 := blk_cell HU5.out.2.1 0
        have g0 := blk_frozen HU5.out.2.1 0
        simp only [List.getElem?_toArray, List.getElem?_cons_zero, List.getElem?_cons_succ] at c0 c1 d0
        have HU6 := Lib.hid ((HU5.out.setX T3 s3).setT s1)
        clear hb5 HU4 HU5 hbt HNUM
        go_wp2_with fail
        with_reducible refine (HCNT.out _).mono ?_
        rintro x w7 ⟨rfl, hb7⟩
        have HU7 := Lib.hid (HU6.out.below hb7)
        have c0 := blk_cell HU7.out.1 0
        have c1 := blk_cell HU7.out.1 1
        have f0 := blk_frozen HU7.out.1 0
        have f1 := blk_frozen HU7.out.1 1
        simp only [List.getElem?_toArray, List.getElem?_cons_zero, List.getElem?_cons_succ] at c0 c1
        have HU8 := Lib.hid (HU7.out.setX T4 m3)
        clear hb7 HU7 HU6 HCNT
        go_wp2_with fail
        clear c0 c1 f0 f1
        go_loopw [8] (fun i wr => ∃ k : Int, 0 ≤ k ∧ k ≤ m ∧ i = .int .u64 k ∧ Hid (∃ p e u acc, p ≤ bs.length ∧ IsU w wr w.heap.size bx bt (tl bs p) e s1 u (acc.map toO) (fun _ => True) ∧ (acc.length : Int) = k ∧ oR bs = (acc ++ (outsR bs (m.toNat - k.toNat) p e).1, (outsR bs (m.toNat - k.toNat) p e).2))) (fun i _ => (m - intOf i).toNat)
        case atStart => exact ⟨0, by omega, HM.out.1, rfl, Lib.hid ⟨(nR bs).2.1, m3, .slice none 0 0, [], nR_pl bs, by rw [HT4.out]; exact HU8.out, rfl, by rw [HOR.out, HM3.out]; rfl⟩⟩
        case round =>
          obtain ⟨k, hk0, hkm, rfl, H⟩ := hrel
          by_cases hlt : k < m
          · obtain ⟨p, e, u, acc, hp, hU, hlen, hout⟩ := H.out
            have HP := Lib.hid hp
            have HU := Lib.hid hU.bound
            have HLN := Lib.hid hlen
            have HOU := Lib.hid hout
            have HLT := Lib.hid hlt
            have wk : IntKind.u64.wrap (k + 1) = k + 1 := u64w_id (by omega) (by have := HM.out; omega)
            have wk2 : (k + 1) % 18446744073709551616 = k + 1 := by have := HM.out; omega
            have HN1 := Lib.hid (fun W => unum bs p hp e 8 HL.out HBY.out W)
            obtain ⟨v1, hv1⟩ : ∃ v, (numR bs p e 8).1 = v := ⟨_, rfl⟩
            obtain ⟨p1, hp1⟩ : ∃ v, (numR bs p e 8).2.1 = v := ⟨_, rfl⟩
            obtain ⟨e1, he1⟩ : ∃ v, (numR bs p e 8).2.2 = v := ⟨_, rfl⟩
            have hp1l : p1 ≤ bs.length := by rw [← hp1]; exact numR_le hp _ _
            have HW1 := Lib.hid (fun W => uwords bs p1 hp1l e1 64 HL.out HBY.out W (by decide))
            obtain ⟨txt, htxt⟩ : ∃ v, (textR bs p1 e1 64).1 = v := ⟨_, rfl⟩
            obtain ⟨p2, hp2⟩ : ∃ v, (textR bs p1 e1 64).2.1 = v := ⟨_, rfl⟩
            obtain ⟨e2, he2⟩ : ∃ v, (textR bs p1 e1 64).2.2 = v := ⟨_, rfl⟩
            have hp2l : p2 ≤ bs.length := by rw [← hp2]; exact textR_le hp1l _ _
            have HP2 := Lib.hid hp2l
            rw [hv1, hp1, he1] at HN1
            rw [htxt, hp2, he2] at HW1
            have HSTEP := Lib.hid (show ∀ j, outsR bs (j + 1) p e = ((⟨v1, txt⟩ : OutT) :: (outsR bs j p2 e2).1, (outsR bs j p2 e2).2) from fun j => by simp only [outsR, hv1, hp1, he1, htxt, hp2, he2])
            obtain ⟨X0, hX0⟩ : ∃ v, tl bs p = v := ⟨_, rfl⟩
            obtain ⟨X1, hX1⟩ : ∃ v, tl bs p1 = v := ⟨_, rfl⟩
            obtain ⟨X2, hX2⟩ : ∃ v, tl bs p2 = v := ⟨_, rfl⟩
            obtain ⟨tx, htx⟩ : ∃ v, strOfNums txt = v := ⟨_, rfl⟩
            rw [hX0] at HU HN1
            rw [hX1] at HN1 HW1
            rw [hX2, htx] at HW1
            have HX2 := Lib.hid hX2
            have HTX := Lib.hid htx
            obtain ⟨accX, haccX⟩ : ∃ v, acc.map toO = v := ⟨_, rfl⟩
            rw [haccX] at HU
            have HACX := Lib.hid haccX
            have hc0 := blk_cell (blk_alloc HU.out.1 (.cells #[.int .u64 0, .string ⟨#[]⟩] 56)) 0
            have hc1 := blk_cell (blk_alloc HU.out.1 (.cells #[.int .u64 0, .string ⟨#[]⟩] 56)) 1
            simp only [List.getElem?_toArray, List.getElem?_cons_zero, List.getElem?_cons_succ] at hc0 hc1
            have HU1 := Lib.hid (HU.out.below (below_alloc (Below.refl _ _) (.cells #[.int .u64 0, .string ⟨#[]⟩] 56)))
            have hnew : (wr.alloc (.cells #[.int .u64 0, .string ⟨#[]⟩] 56)).heap[wr.heap.size]? = some (.cells #[.int .u64 0, .string ⟨#[]⟩] 56 (0, 0)) := by simpa using heap_alloc_new wr _
            have HNEW := Lib.hid hnew
            have HLB := Lib.hid (show bt < wr.heap.size from HU.out.lt)
            clear hp hU hlen hout H hv1 hp1 he1 htxt hp2 he2 hp1l hp2l hX0 hX1 hX2 htx haccX hnew
            go_wp2_with fail
            with_reducible refine (HN1.out _).mono ?_
            rintro x w9 ⟨rfl, hb9⟩
            have HU2 := Lib.hid (HU1.out.below hb9)
            have HO2' := Lib.hid ((hb9.block _ (blk_lt HNEW.out)).trans HNEW.out)
            obtain ⟨bo, hbo⟩ : ∃ b, wr.heap.size = b := ⟨_, rfl⟩
            rw [hbo] at HU2 HO2' HLB ⊢
            have q1 : bo ≠ bx := by have := HLB.out; have := HU2.out.2.2.2.2.2.2.2; omega
            have q2 : bx ≠ bo := Ne.symm q1
            have q3 : bo ≠ bt := by have := HLB.out; omega
            have q4 : bt ≠ bo := Ne.symm q3
            have c0 := blk_cell HU2.out.1 0
            have c1 := blk_cell HU2.out.1 1
            have f0 := blk_frozen HU2.out.1 0
            have f1 := blk_frozen HU2.out.1 1
            have o0 := blk_cell HO2'.out 0
            have g0 := blk_frozen HO2'.out 0
            simp only [List.getElem?_toArray, List.getElem?_cons_zero, List.getElem?_cons_succ] at c0 c1 o0
            have HU3 := Lib.hid ((HU2.out.setX X1 e1).far (b := bo) HLB.out (fun k hk => by omega) 0 (.int .u64 v1))
            have HO3 := Lib.hid (show (((w9.setCell ⟨bx, 0, none⟩ (.string X1)).setCell ⟨bx, 1, none⟩ (.int .i64 e1)).setCell ⟨bo, 0, none⟩ (.int .u64 v1)).heap[bo]? = some (.cells #[.int .u64 v1, .string ⟨#[]⟩] 56 (0, 0)) from by
              have h1 : ((w9.setCell ⟨bx, 0, none⟩ (.string X1)).setCell ⟨bx, 1, none⟩ (.int .i64 e1)).heap[bo]? = some (.cells #[.int .u64 0, .string ⟨#[]⟩] 56 (0, 0)) := by
                rw [Below.heap_setCell _ ⟨bx, 1, none⟩ _ bo q1, Below.heap_setCell _ ⟨bx, 0, none⟩ _ bo q1]
                exact HO2'.out
              exact blk_set h1 0 _)
            clear hb9 HU1 HU2 HO2' hbo HN1
            go_wp2_with fail
            with_reducible refine (HW1.out _).mono ?_
            rintro x w11 ⟨rfl, hb11⟩
            have HU4' := Lib.hid (HU3.out.below hb11)
            have HO4 := Lib.hid ((hb11.block _ (blk_lt HO3.out)).trans HO3.out)
            clear c0 c1 f0 f1 o0 g0
            have c0 := blk_cell HU4'.out.1 0
            have c1 := blk_cell HU4'.out.1 1
            have f0 := blk_frozen HU4'.out.1 0
            have f1 := blk_frozen HU4'.out.1 1
            have o0 := blk_cell HO4.out 0
            have o1 := blk_cell HO4.out 1
            have g1 := blk_frozen HO4.out 1
            have d1 := blk_cell HU4'.out.2.1 1
            simp only [List.getElem?_toArray, List.getElem?_cons_zero, List.getElem?_cons_succ] at c0 c1 o0 o1 d1
            have HU5' := Lib.hid ((HU4'.out.setX X2 e2).far (b := bo) HLB.out (fun k hk => by omega) 1 (.string tx))
            have HRA := Lib.hid (Kd.R_mono HU5'.out.2.2.2.1 (fun _ _ => (trivial : True)))
            have HAS := Lib.hid (show w.heap.size ≤ (((w11.setCell ⟨bx, 0, none⟩ (.string X2)).setCell ⟨bx, 1, none⟩ (.int .i64 e2)).setCell ⟨bo, 1, none⟩ (.string tx)).heap.size from HU5'.out.2.2.2.2.1.size)
            have HAL := Lib.hid (show (accX.length + 1) * 24 ≤ 140737488355328 by rw [← HACX.out, List.length_map]; have := HLN.out; have := HM.out; omega)
            clear hb11 HU3 HO3 HU4' HO4 HW1
            go_wp2_with ((with_reducible refine gate_builtin (b := .append) (xs := #[.tmp 59, .tmp 61]) rfl ?_); at_builtin; refine Kd.R_append k56 (w0 := ((w11.setCell ⟨bx, 0, none⟩ (.string X2)).setCell ⟨bx, 1, none⟩ (.int .i64 e2)).setCell ⟨bo, 1, none⟩ (.string tx)) w.heap.size rfl (.tmp 59) (.tmp 61) 33 56 (.agg #[.int .u64 0, .string ⟨#[]⟩]) 24 rfl Try.underlying33 infoR rfl (by decide) (by decide) u accX (⟨v1, tx⟩ : S56) [.int .u64 v1, .string tx] (fun _ => True) (fun _ => False) rfl (by first | (go_simp; done) | (go_simp; rfl)) (k56_mkM _ _ _ (⟨v1, tx⟩ : S56)) (fun _ hk => hk.elim) (fun _ _ => trivial) HRA.out (Below.refl _ _) HAS.out HAL.out ?_; intro v3 w12 ho hb hg hat; obtain ⟨z1, z2, hT9⟩ := HU5'.out.push ho hb hg; generalize hacc : accX ++ [(⟨v1, tx⟩ : S56)] = acc' at ho hT9; have HACC := Lib.hid hacc; clear hacc; obtain ⟨A4, c4, hv3⟩ := Kd.R_slice ho; subst hv3; have HT10 := Lib.hid hT9; clear ho hb hg hat hT9)
            go_roundw
            case rel => exact ⟨k + 1, by omega, by have := HLT.out; omega, by first | rw [wk] | rw [wk2] | (simp; done), Lib.hid ⟨p2, e2, _, acc ++ [(⟨v1, txt⟩ : OutT)], HP2.out, by
              rw [HX2.out, List.map_append, HACX.out, List.map_cons, List.map_nil, show toO (⟨v1, txt⟩ : OutT) = (⟨v1, tx⟩ : S56) from by rw [← HTX.out]; rfl, HACC.out]
              exact HT10.out, by rw [List.length_append, Int.natCast_add, HLN.out]; rfl, by
              rw [HOU.out, show m.toNat - k.toNat = (m.toNat - (k + 1).toNat) + 1 by have := HLT.out; omega, HSTEP.out]
              simp only [List.append_assoc, List.cons_append, List.nil_append]⟩⟩
            case measure => simp [intOf, wk, wk2]; have := HLT.out; omega
          · obtain ⟨p, e, u, acc, hp, hU, hlen, hout⟩ := H.out
            rw [show m.toNat - k.toNat = 0 by omega] at hout
            have hoR : oR bs = (acc, p, e) := by rw [hout]; simp [outsR]
            have hEE : endE bs = endR bs p e := by unfold endE; rw [hoR]
            have HU := Lib.hid hU
            have hE := HE2.out
            have hS := HS2.out
            have hO := HO2.out
            rw [hEE] at hE hS hO
            rw [hoR] at hO
            rw [HS1.out] at hS
            simp only at hO
            have htls := tl_size bs p
            obtain ⟨X0, hX0⟩ : ∃ v, tl bs p = v := ⟨_, rfl⟩
            rw [hX0] at htls HU
            have c0 := blk_cell HU.out.1 0
            have c1 := blk_cell HU.out.1 1
            have d0 := blk_cell HU.out.2.1 0
            have d1 := blk_cell HU.out.2.1 1
            have r0 := blk_cell HU.out.2.2.1 0
            have r1 := blk_cell HU.out.2.2.1 1
            have f0 := blk_frozen HU.out.2.2.1 0
            have f1 := blk_frozen HU.out.2.2.1 1
            simp only [List.getElem?_toArray, List.getElem?_cons_zero, List.getElem?_cons_succ] at c0 c1 d0 d1 r0 r1
            have hn1 : w.heap.size ≠ bx := by have := HU.out.2.2.2.2.2.2.1; omega
            have hn2 : w.heap.size ≠ bt := by have := HU.out.2.2.2.2.2.2.1; have := HU.out.2.2.2.2.2.2.2; omega
            have hn3 := Ne.symm hn1
            have hn4 := Ne.symm hn2
            have HZ := Lib.hid (blk_set (blk_set HU.out.2.2.1 0 (.int .u64 0)) 1 (.slice none 0 0))
            have HBZ := Lib.hid ((HU.out.2.2.2.2.1.setCell (p := ⟨w.heap.size, 0, none⟩) (Nat.le_refl _) (.int .u64 0)).setCell (p := ⟨w.heap.size, 1, none⟩) (Nat.le_refl _) (.slice none 0 0))
            have HPL := Lib.hid hp
            clear hU hlen hout hoR hEE H HE2 HS2 HO2 hX0 hp
            by_cases he0 : e = 0
            · subst he0
              by_cases hpl : p < bs.length
              · have hen : endR bs p 0 = 3 := by unfold endR; rw [if_pos ⟨rfl, hpl⟩]
                rw [hen] at hE hS hO
                have s0 : decide ((0 : Int) < (X0.size : Int)) = true := decide_eq_true (by omega)
                have s0a : decide (0 < X0.size) = true := decide_eq_true (by omega)
                have s0b : (0 < X0.size) = True := eq_true (by omega)
                have s0c : (X0.size = 0) = False := eq_false (by omega)
                have s0d : ((0 : Int) < (X0.size : Int)) = True := eq_true (by omega)
                rw [if_neg (by decide)] at hS hO
                subst hE
                subst hS
                subst hO
                clear hen htls hpl
                go_wp2_with fail
                exact bodyPost_ret (results_ct rfl _ _ w.heap.size 35 #[.int .u64 0, .slice none 0 0] (0, 0) _ rfl HZ.out Try.underlying35 rfl (by kernel_rfl)) rfl ⟨_, rfl, Kd.R_nil _ _ _ _ _, HBZ.out⟩
              · have hen : endR bs p 0 = 0 := by unfold endR; rw [if_neg (fun h => hpl h.2)]
                rw [hen] at hE hS hO
                have s0 : X0.size = 0 := by omega
                rw [if_pos rfl] at hS hO
                obtain ⟨aX, haX⟩ : ∃ v, acc.map toO = v := ⟨_, rfl⟩
                rw [haX] at hO HU
                obtain ⟨A5, c5, hu⟩ := Kd.R_slice HU.out.2.2.2.1
                subst hu
                subst hE
                subst hS
                subst hO
                have HR8 := Lib.hid (blk_set (blk_set HU.out.2.2.1 0 (.int .u64 S)) 1 (.slice A5 O.length c5))
                have HB8 := Lib.hid ((HU.out.2.2.2.2.1.setCell (p := ⟨w.heap.size, 0, none⟩) (Nat.le_refl _) (.int .u64 S)).setCell (p := ⟨w.heap.size, 1, none⟩) (Nat.le_refl _) (.slice A5 O.length c5))
                have HV8 := Lib.hid (Kd.R_set (Kd.R_set HU.out.2.2.2.1 HU.out.2.2.1 (by decide) 0 (.int .u64 S)) (blk_set HU.out.2.2.1 0 (.int .u64 S)) (by decide) 1 (.slice A5 O.length c5))
                clear hen htls hpl haX
                go_wp2_with fail
                exact bodyPost_ret (results_ct rfl _ _ w.heap.size 35 #[.int .u64 S, .slice A5 O.length c5] (0, 0) _ rfl HR8.out Try.underlying35 rfl (by kernel_rfl)) rfl ⟨_, rfl, Kd.R_mono HV8.out (fun _ _ => trivial), HB8.out⟩
            · have hen : endR bs p e = e := by unfold endR; rw [if_neg (fun h => he0 h.1)]
              rw [hen, if_neg he0] at hS hO
              rw [hen] at hE
              have x1 : (e = 0) = False := eq_false he0
              have x2 : (e == 0) = false := by simpa using he0
              have x3 : (e != 0) = true := by simpa using he0
              subst hE
              subst hS
              subst hO
              clear hen htls he0
              go_wp2_with fail
              go_region
              all_goals
                go_wp2_with fail
                exact bodyPost_ret (results_ct rfl _ _ w.heap.size 35 #[.int .u64 0, .slice none 0 0] (0, 0) _ rfl HZ.out Try.underlying35 rfl (by kernel_rfl)) rfl ⟨_, rfl, Kd.R_nil _ _ _ _ _, below_drew HBZ.out⟩
end Go.Proofs.Ytpjkhecefppamaa.Hand
