/- The law's step: a call of both. -/
import Derived.Test.YtklillecmjooeaaProg
import Derived.Below
import Derived.Deep.Draws
import Derived.Deep.AppendLies
import Derived.Maps.AppendAt
import Derived.OwnWalk
import Derived.Laws.BytesArg
import Derived.Laws.MakeOwn
import Derived.Laws.OwnMore
import Derived.Deep.OwnRows
import Derived.Tactics
import Derived.Lib.ConvBytes
import Derived.Laws.Slices
import Derived.WalkKit
import Derived.KernelRfl
import Derived.RowKit3
import Derived.Deep.LoopGhost
import Derived.Deep.QuietTactic
import Derived.BigQuiet
import Derived.WideLaws
import Derived.Deep.DeepCutAuto
import Derived.Deep.CutBlock
import Derived.Deep.RegionHeld3
import Derived.Laws.Rows
import Derived.Lib.AppendStr
import Derived.ArgAppend
import Derived.Laws.IdiomCopy
import Derived.OrdersHeld
import Derived.Laws.BitsLemmas
import Derived.RowKit
import Derived.StillTailTactics
import Derived.Test.YtklillecmjooeaaWWords
import Derived.Test.YtklillecmjooeaaWLast
import Derived.Test.YtklillecmjooeaaWMore
import Derived.Lib.Hide
import Derived.LaidEql
import Derived.Outline
import Derived.Test.YtklillecmjooeaaStepOps
namespace Go.Proofs.Ytklillecmjooeaa.Hand
open Go Go.RowKit Go.Proofs.Ytklillecmjooeaa.Plain Go.Proofs.Ytklillecmjooeaa.PAll Go.Proofs.YtklillecmjooeaaW.PrintWords Go.Proofs.YtklillecmjooeaaW.PrintLast Go.Proofs.YtklillecmjooeaaW.PrintMore
set_option linter.unusedVariables false
set_option linter.unusedSimpArgs false
/-- What may be on its way. -/
def Fits (ms : List S49) : Prop := ms.length ≤ 64 ∧ ∀ m ∈ ms, m.f0.length ≤ 200000
theorem Fits.send {ms : List S49} (h : Fits ms) (bs : List Int) (now : Int) : Fits (sendL ms bs now) := by
  unfold sendL
  split
  · exact h
  · split
    · exact h
    · refine ⟨by simp; omega, fun m hm => ?_⟩
      rcases List.mem_append.mp hm with hm | hm
      · exact h.2 m hm
      · simp only [List.mem_cons, List.not_mem_nil, or_false] at hm
        subst hm
        show bs.length ≤ 200000
        omega
theorem Fits.erase {ms : List S49} (h : Fits ms) (i : Nat) : Fits (ms.eraseIdx i) := ⟨Nat.le_trans (by rw [List.length_eraseIdx]; split <;> omega) h.1, fun m hm => h.2 m (List.mem_of_mem_eraseIdx hm)⟩
theorem Fits.at {ms : List S49} (h : Fits ms) {j : Nat} (hj : j < ms.length) : (rd_T49 ms j).f0.length ≤ 200000 := by
  refine h.2 _ ?_
  unfold rd_T49
  rw [List.getD_eq_getElem?_getD, Int.toNat_natCast, List.getElem?_eq_getElem hj]
  exact List.getElem_mem _
set_option maxHeartbeats 1000000 in
set_option maxRecDepth 100000 in
theorem lsend_big {w : World} {g : Nat} (A0 : Option Addr) (n0 c0 : Nat) (now : Int) (hn : 200000 < n0) :
    Calls Try.prog 8 #[.pointer (some ⟨g, 0, none⟩), .slice A0 n0 c0, .int .i64 now] w fun e w' => e = .returned (.int .i64 4) ∧ w = w' := by
  have b1 : decide ((200000 : Int) < (n0 : Int)) = true := decide_eq_true (by omega)
  clear hn
  go_enter Try.func8, Try.ntmps8
  go_wp2
  go_ret
  exact ⟨rfl, rfl⟩
theorem ssend {w0 w : World} {g : Nat} {v : Value} {ms ms' : List S49} (A0 : Option Addr) (c0 : Nat) (bs : List Int) (now : Int) (h : IsS w0 w g v ms ms') (hr : Kd.C (Kd.int .u8) w0 A0 bs.length bs) (hc0 : bs.length ≤ c0) (hn : ms.length ≤ 1000000) :
    Calls Try.prog 8 #[.pointer (some ⟨g, 0, none⟩), .slice A0 bs.length c0, .int .i64 now] w fun e w' => e = .returned (.int .i64 (sendE bs.length ms.length)) ∧ IsS w0 w' g v (sendL ms bs now) ms' := by
  by_cases hb : 200000 < bs.length
  · rw [show sendE bs.length ms.length = 4 from if_pos hb, show sendL ms bs now = ms from if_pos hb]
    refine (lsend_big A0 _ c0 now hb).mono ?_
    rintro e w1 ⟨rfl, rfl⟩
    exact ⟨rfl, h⟩
  · refine (lsend_calls A0 _ c0 bs now h.1 rfl (Kd.C_below hr h.2.2) hc0 (by omega) hn).mono ?_
    rintro e w1 ⟨rfl, h1, h2, h3⟩
    exact ⟨rfl, h.link h1 h2 h3⟩
theorem stake {w0 w : World} {g i : Nat} {v : Value} {ms ms' : List S49} (p : Int) (h : IsS w0 w g v ms ms') (hn : ms.length ≤ 1000000) (hi : i < ms.length) (hat : atL p ms.length = i) :
    Calls Try.prog 9 #[.pointer (some ⟨g, 0, none⟩), .int .i64 p] w fun e w' => ∃ v1, e = .returned (.tuple #[v1, .int .i64 0]) ∧ (convert 27 9 v1).run Try.prog w' = .ok (.string (strOfNums (rd_T49 ms i).f0)) w' ∧ IsS w0 w' g v (ms.eraseIdx i) ms' := by
  refine (ltake_some p i h.1 hn hat (by omega) (by omega)).mono ?_
  rintro e w1 ⟨v1, rfl, hv, h1, h2, h3⟩
  exact ⟨v1, rfl, own_string (P := Try.prog) Try.underlying27 Try.underlying5 Try.underlying9 (Kd.own_of_R hv), h.link (by rw [Int.toNat_natCast] at h1; exact h1) h2 h3⟩
theorem stake_none {w0 w : World} {g : Nat} {v : Value} {ms' : List S49} (p : Int) (h : IsS w0 w g v [] ms') :
    Calls Try.prog 9 #[.pointer (some ⟨g, 0, none⟩), .int .i64 p] w fun e w' => e = .returned (.tuple #[.slice none 0 0, .int .i64 6]) ∧ (convert 27 9 (.slice none 0 0)).run Try.prog w' = .ok (.string ⟨#[]⟩) w' ∧ IsS w0 w' g v [] ms' := by
  refine (ltake_none p h.1).mono ?_
  rintro e w1 ⟨rfl, rfl⟩
  exact ⟨rfl, own_string (P := Try.prog) (base := 0) (xs := []) Try.underlying27 Try.underlying5 Try.underlying9 (Kd.own_of_R (Kd.R_nil (Kd.int .u8) 5 w 0 (fun _ => True))), h⟩
theorem sdrop {w0 w : World} {g i : Nat} {v : Value} {ms ms' : List S49} (p : Int) (h : IsS w0 w g v ms ms') (hn : ms.length ≤ 1000000) (hi : i < ms.length) (hat : atL p ms.length = i) :
    Calls Try.prog 13 #[.pointer (some ⟨g, 0, none⟩), .int .i64 p] w fun e w' => e = .returned (.int .i64 0) ∧ IsS w0 w' g v (ms.eraseIdx i) ms' := by
  refine (ldrop_some p i h.1 hn hat (by omega) (by omega)).mono ?_
  rintro e w1 ⟨rfl, h1, h2, h3⟩
  exact ⟨rfl, h.link (by rw [Int.toNat_natCast] at h1; exact h1) h2 h3⟩
theorem sdouble {w0 w : World} {g i : Nat} {v : Value} {ms ms' : List S49} (p : Int) (h : IsS w0 w g v ms ms') (hf : Fits ms) (hi : i < ms.length) (hat : atL p ms.length = i) :
    Calls Try.prog 11 #[.pointer (some ⟨g, 0, none⟩), .int .i64 p] w fun e w' => e = .returned (.int .i64 (sendE (rd_T49 ms i).f0.length ms.length)) ∧ IsS w0 w' g v (sendL ms (rd_T49 ms i).f0 (rd_T49 ms i).f1) ms' := by
  have := hf.1
  have := hf.at hi
  refine (ldouble_some p i h.1 (by omega) hat (by omega) (by omega) (by omega)).mono ?_
  rintro e w1 ⟨rfl, h1, h2, h3⟩
  exact ⟨rfl, h.link h1 h2 h3⟩
theorem sdrop_none {w0 w : World} {g : Nat} {v : Value} {ms' : List S49} (p : Int) (h : IsS w0 w g v [] ms') :
    Calls Try.prog 13 #[.pointer (some ⟨g, 0, none⟩), .int .i64 p] w fun e w' => e = .returned (.int .i64 6) ∧ IsS w0 w' g v [] ms' := by
  refine (ldrop_none p h.1).mono ?_
  rintro e w1 ⟨rfl, rfl⟩
  exact ⟨rfl, h⟩
theorem sdouble_none {w0 w : World} {g : Nat} {v : Value} {ms' : List S49} (p : Int) (h : IsS w0 w g v [] ms') :
    Calls Try.prog 11 #[.pointer (some ⟨g, 0, none⟩), .int .i64 p] w fun e w' => e = .returned (.int .i64 6) ∧ IsS w0 w' g v [] ms' := by
  refine (ldouble_none p h.1).mono ?_
  rintro e w1 ⟨rfl, rfl⟩
  exact ⟨rfl, h⟩
set_option maxHeartbeats 4000000 in
set_option maxRecDepth 100000 in
theorem step_calls {w0 w : World} {g c3 : Nat} {v : Value} {A3 : Option Addr} {ms : List S49} (kind n now : Int) (row : List Int) (h : IsS w0 w g v ms ms) (hf : Fits ms) (hr : Kd.C (Kd.int .u8) w0 A3 row.length row) (hc : row.length ≤ c3) :
    Calls Try.prog 15 #[.pointer (some ⟨g, 0, none⟩), v, .agg #[.int .i64 kind, .int .i64 n, .int .i64 now, .slice A3 row.length c3]] w fun e w' => ∃ v' ms', e = .returned (.tuple #[v', .bool true]) ∧ IsS w0 w' g v' ms' ms' ∧ Fits ms' := by
  have HF := Lib.hid hf
  have HS1 := Lib.hid (h.alloc (.cells #[.int .i64 kind, .int .i64 n, .int .i64 now, .slice A3 row.length c3] 29))
  have HR := Lib.hid hr
  have HC := Lib.hid hc
  have hnew : (w.alloc (.cells #[.int .i64 kind, .int .i64 n, .int .i64 now, .slice A3 row.length c3] 29)).heap[w.heap.size]? = some (.cells #[.int .i64 kind, .int .i64 n, .int .i64 now, .slice A3 row.length c3] 29 (0, 0)) := by simpa using heap_alloc_new w _
  have hlt : w.heap.size < (w.alloc (.cells #[.int .i64 kind, .int .i64 n, .int .i64 now, .slice A3 row.length c3] 29)).heap.size := by rw [World.size_alloc]; omega
  have HX := Lib.hid (xblock h.2.1)
  obtain ⟨len3, hlen3⟩ : ∃ n, row.length = n := ⟨_, rfl⟩
  have hcv := fun w1 (hb : Below w0.heap.size w0 w1) => Kd.C_string (P := Try.prog) (c := c3) Try.underlying27 Try.underlying5 Try.underlying9 (Kd.C_below hr hb)
  have HCV := Lib.hid (hcv _ HS1.out.2.2)
  rw [hlen3] at HS1 hnew hlt HCV ⊢
  have HBOX : Hid (∀ w2, Kept (w.alloc (.cells #[.int .i64 kind, .int .i64 n, .int .i64 now, .slice A3 len3 c3] 29)) w2 (fun k => v.ownBlock = some k) → w2.cell? ⟨w.heap.size, 1, none⟩ = some (.int .i64 n) ∧ w2.cell? ⟨w.heap.size, 2, none⟩ = some (.int .i64 now) ∧ w2.cell? ⟨w.heap.size, 3, none⟩ = some (.slice A3 len3 c3)) := Lib.hid fun w2 hk => by
    have hb := (hk.2 w.heap.size hlt (fun e => by have := (HX.out _ e).1; omega)).trans hnew
    exact ⟨(blk_cell hb 1).trans rfl, (blk_cell hb 2).trans rfl, (blk_cell hb 3).trans rfl⟩
  have HN : Hid (ms.length ≤ 1000000) := Lib.hid (by have := hf.1; omega)
  clear hnew hlt HX hr hc hf h hcv
  by_cases k1 : kind = 1
  · subst k1
    have HRS := Lib.hid (rsend HS1.out HN.out row now)
    have HLS : Hid (∀ w2 v0, IsS w0 w2 g v0 ms (sendL ms row now) → Calls Try.prog 8 #[.pointer (some ⟨g, 0, none⟩), .slice A3 len3 c3, .int .i64 now] w2 fun e w' => e = .returned (.int .i64 (sendE row.length ms.length)) ∧ IsS w0 w' g v0 (sendL ms row now) (sendL ms row now)) := Lib.hid fun w2 v0 h => by
      have := ssend A3 c3 row now h HR.out HC.out HN.out
      rwa [hlen3] at this ⊢
    have HF2 := Lib.hid (HF.out.send row now)
    obtain ⟨T, hT⟩ : ∃ T, strOfNums row = T := ⟨_, rfl⟩
    obtain ⟨r, hrr⟩ : ∃ r, sendE row.length ms.length = r := ⟨_, rfl⟩
    obtain ⟨ms', hms'⟩ : ∃ r, sendL ms row now = r := ⟨_, rfl⟩
    rw [hT] at HCV HRS
    rw [hrr, hms'] at HRS HLS
    rw [hms'] at HF2
    have hcv := HCV.out
    clear hT hrr hms' HCV hlen3
    go_enter Try.func15, Try.ntmps15
    go_wp2_with fail
    with_reducible refine HRS.out.mono ?_
    rintro e w2 ⟨v0, rfl, h2, hk2⟩
    obtain ⟨y1, y2, y3⟩ := HBOX.out w2 hk2
    have HL2 := Lib.hid (HLS.out w2 v0 h2)
    clear h2 hk2 HRS HLS HBOX hcv
    go_wp2_with fail
    with_reducible refine HL2.out.mono ?_
    rintro e w3 ⟨rfl, h3⟩
    have H3 := Lib.hid h3
    clear h3 y1 y2 y3 HL2
    go_wp2
    go_ret2
    exact ⟨_, _, rfl, H3.out, HF2.out⟩
  · have k1f : (kind = 1) = False := eq_false k1
    have k1b : (kind == 1) = false := by simpa using k1
    clear k1 HCV hlen3 HR HC
    by_cases k2 : kind = 2
    · subst k2
      clear k1f k1b
      by_cases hms : ms = []
      · subst hms
        have HRS := Lib.hid (rtake_none HS1.out n)
        have HLS : Hid (∀ w2 v0, IsS w0 w2 g v0 [] [] → Calls Try.prog 9 #[.pointer (some ⟨g, 0, none⟩), .int .i64 n] w2 fun e w' => e = .returned (.tuple #[.slice none 0 0, .int .i64 6]) ∧ (convert 27 9 (.slice none 0 0)).run Try.prog w' = .ok (.string ⟨#[]⟩) w' ∧ IsS w0 w' g v0 [] []) := Lib.hid fun w2 v0 h => stake_none n h
        go_enter Try.func15, Try.ntmps15
        go_wp2_with fail
        with_reducible refine HRS.out.mono ?_
        rintro e w2 ⟨v0, rfl, h2, hk2⟩
        obtain ⟨y1, y2, y3⟩ := HBOX.out w2 hk2
        have HL2 := Lib.hid (HLS.out w2 v0 h2)
        clear h2 hk2 HRS HLS HBOX
        go_wp2_with fail
        with_reducible refine HL2.out.mono ?_
        rintro e w3 ⟨rfl, hcv, h3⟩
        have H3 := Lib.hid h3
        clear h3 y1 y2 y3 HL2
        go_wp2
        go_ret2
        exact ⟨_, _, rfl, H3.out, HF.out⟩
      · obtain ⟨i, hi, hat⟩ := atL_in (p := n) (List.length_pos_iff.mpr hms)
        have HRS := Lib.hid (rtake_some HS1.out HN.out n i hi hat)
        have HLS : Hid (∀ w2 v0, IsS w0 w2 g v0 ms (ms.eraseIdx i) → Calls Try.prog 9 #[.pointer (some ⟨g, 0, none⟩), .int .i64 n] w2 fun e w' => ∃ v1, e = .returned (.tuple #[v1, .int .i64 0]) ∧ (convert 27 9 v1).run Try.prog w' = .ok (.string (strOfNums (rd_T49 ms i).f0)) w' ∧ IsS w0 w' g v0 (ms.eraseIdx i) (ms.eraseIdx i)) := Lib.hid fun w2 v0 h => stake n h HN.out hi hat
        have HF2 := Lib.hid (HF.out.erase i)
        obtain ⟨T, hT⟩ : ∃ T, strOfNums (rd_T49 ms i).f0 = T := ⟨_, rfl⟩
        obtain ⟨ms', hms'⟩ : ∃ r, ms.eraseIdx i = r := ⟨_, rfl⟩
        rw [hT, hms'] at HRS HLS
        rw [hms'] at HF2
        clear hT hms' hi hat hms
        go_enter Try.func15, Try.ntmps15
        go_wp2_with fail
        with_reducible refine HRS.out.mono ?_
        rintro e w2 ⟨v0, rfl, h2, hk2⟩
        obtain ⟨y1, y2, y3⟩ := HBOX.out w2 hk2
        have HL2 := Lib.hid (HLS.out w2 v0 h2)
        clear h2 hk2 HRS HLS HBOX
        go_wp2_with fail
        with_reducible refine HL2.out.mono ?_
        rintro e w3 ⟨v1, rfl, hcv, h3⟩
        have H3 := Lib.hid h3
        clear h3 y1 y2 y3 HL2
        go_wp2
        go_ret2
        exact ⟨_, _, rfl, H3.out, HF2.out⟩
    · have k2f : (kind = 2) = False := eq_false k2
      have k2b : (kind == 2) = false := by simpa using k2
      clear k2
      by_cases k3 : kind = 3
      · subst k3
        clear k1f k1b k2f k2b
        by_cases hms : ms = []
        · subst hms
          have HRS := Lib.hid (rtake_none HS1.out n)
          have HLS : Hid (∀ w2 v0, IsS w0 w2 g v0 [] [] → Calls Try.prog 13 #[.pointer (some ⟨g, 0, none⟩), .int .i64 n] w2 fun e w' => e = .returned (.int .i64 6) ∧ IsS w0 w' g v0 [] []) := Lib.hid fun w2 v0 h => sdrop_none n h
          go_enter Try.func15, Try.ntmps15
          go_wp2_with fail
          with_reducible refine HRS.out.mono ?_
          rintro e w2 ⟨v0, rfl, h2, hk2⟩
          obtain ⟨y1, y2, y3⟩ := HBOX.out w2 hk2
          have HL2 := Lib.hid (HLS.out w2 v0 h2)
          clear h2 hk2 HRS HLS HBOX
          go_wp2_with fail
          with_reducible refine HL2.out.mono ?_
          rintro e w3 ⟨rfl, h3⟩
          have H3 := Lib.hid h3
          clear h3 y1 y2 y3 HL2
          go_wp2
          go_ret2
          exact ⟨_, _, rfl, H3.out, HF.out⟩
        · obtain ⟨i, hi, hat⟩ := atL_in (p := n) (List.length_pos_iff.mpr hms)
          have HRS := Lib.hid (rtake_some HS1.out HN.out n i hi hat)
          have HLS : Hid (∀ w2 v0, IsS w0 w2 g v0 ms (ms.eraseIdx i) → Calls Try.prog 13 #[.pointer (some ⟨g, 0, none⟩), .int .i64 n] w2 fun e w' => e = .returned (.int .i64 0) ∧ IsS w0 w' g v0 (ms.eraseIdx i) (ms.eraseIdx i)) := Lib.hid fun w2 v0 h => sdrop n h HN.out hi hat
          have HF2 := Lib.hid (HF.out.erase i)
          obtain ⟨T, hT⟩ : ∃ T, strOfNums (rd_T49 ms i).f0 = T := ⟨_, rfl⟩
          obtain ⟨ms', hms'⟩ : ∃ r, ms.eraseIdx i = r := ⟨_, rfl⟩
          rw [hT, hms'] at HRS
          rw [hms'] at HLS
          rw [hms'] at HF2
          clear hT hms' hi hat hms
          go_enter Try.func15, Try.ntmps15
          go_wp2_with fail
          with_reducible refine HRS.out.mono ?_
          rintro e w2 ⟨v0, rfl, h2, hk2⟩
          obtain ⟨y1, y2, y3⟩ := HBOX.out w2 hk2
          have HL2 := Lib.hid (HLS.out w2 v0 h2)
          clear h2 hk2 HRS HLS HBOX
          go_wp2_with fail
          with_reducible refine HL2.out.mono ?_
          rintro e w3 ⟨rfl, h3⟩
          have H3 := Lib.hid h3
          clear h3 y1 y2 y3 HL2
          go_wp2
          go_ret2
          exact ⟨_, _, rfl, H3.out, HF2.out⟩
      · have k3f : (kind = 3) = False := eq_false k3
        have k3b : (kind == 3) = false := by simpa using k3
        clear k3
        by_cases k4 : kind = 4
        · subst k4
          clear k1f k1b k2f k2b k3f k3b
          by_cases hms : ms = []
          · subst hms
            have HRS := Lib.hid (rdouble_none HS1.out n)
            have HLS := Lib.hid (sdouble_none n HS1.out)
            have HK := HBOX.out _ (Kept.refl _ _)
            clear HBOX
            obtain ⟨y1, y2, y3⟩ := HK
            go_enter Try.func15, Try.ntmps15
            go_wp2_with fail
            with_reducible refine HRS.out.mono ?_
            rintro e w2 ⟨rfl, rfl⟩
            go_wp2_with fail
            with_reducible refine HLS.out.mono ?_
            rintro e w3 ⟨rfl, h3⟩
            have H3 := Lib.hid h3
            clear h3 y1 y2 y3 HLS
            go_wp2
            go_ret2
            exact ⟨_, _, rfl, H3.out, HF.out⟩
          · obtain ⟨i, hi, hat⟩ := atL_in (p := n) (List.length_pos_iff.mpr hms)
            have HRS := Lib.hid (rdouble_some HS1.out HN.out n i hi hat)
            have HLS : Hid (∀ w2 v0, IsS w0 w2 g v0 ms (sendL ms (rd_T49 ms i).f0 (rd_T49 ms i).f1) → Calls Try.prog 11 #[.pointer (some ⟨g, 0, none⟩), .int .i64 n] w2 fun e w' => e = .returned (.int .i64 (sendE (rd_T49 ms i).f0.length ms.length)) ∧ IsS w0 w' g v0 (sendL ms (rd_T49 ms i).f0 (rd_T49 ms i).f1) (sendL ms (rd_T49 ms i).f0 (rd_T49 ms i).f1)) := Lib.hid fun w2 v0 h => sdouble n h HF.out hi hat
            have HF2 := Lib.hid (HF.out.send (rd_T49 ms i).f0 (rd_T49 ms i).f1)
            obtain ⟨r, hrr⟩ : ∃ r, sendE (rd_T49 ms i).f0.length ms.length = r := ⟨_, rfl⟩
            obtain ⟨ms', hms'⟩ : ∃ r, sendL ms (rd_T49 ms i).f0 (rd_T49 ms i).f1 = r := ⟨_, rfl⟩
            rw [hrr, hms'] at HRS HLS
            rw [hms'] at HF2
            clear hrr hms' hi hat hms
            go_enter Try.func15, Try.ntmps15
            go_wp2_with fail
            with_reducible refine HRS.out.mono ?_
            rintro e w2 ⟨v0, rfl, h2, hk2⟩
            obtain ⟨y1, y2, y3⟩ := HBOX.out w2 hk2
            have HL2 := Lib.hid (HLS.out w2 v0 h2)
            clear h2 hk2 HRS HLS HBOX
            go_wp2_with fail
            with_reducible refine HL2.out.mono ?_
            rintro e w3 ⟨rfl, h3⟩
            have H3 := Lib.hid h3
            clear h3 y1 y2 y3 HL2
            go_wp2
            go_ret2
            exact ⟨_, _, rfl, H3.out, HF2.out⟩
        · have k4f : (kind = 4) = False := eq_false k4
          have k4b : (kind == 4) = false := by simpa using k4
          clear k4 HBOX
          go_enter Try.func15, Try.ntmps15
          go_wp2
          go_ret2
          exact ⟨_, _, rfl, HS1.out, HF.out⟩
end Go.Proofs.Ytklillecmjooeaa.Hand
