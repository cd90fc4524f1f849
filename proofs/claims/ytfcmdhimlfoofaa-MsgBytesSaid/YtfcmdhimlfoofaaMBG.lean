/- Several texts in one. -/
import Derived.Test.YtfcmdhimlfoofaaProg
import Derived.Below
import Derived.Deep.Draws
import Derived.Deep.AppendLies
import Derived.Maps.AppendAt
import Derived.OwnWalk
import Derived.Laws.BytesArg
import Derived.Laws.MakeOwn
import Derived.Laws.OwnMore
import Derived.Deep.OwnRows
import Derived.Tactics
import Derived.Lib.ConvBytes
import Derived.Laws.Slices
import Derived.WalkKit
import Derived.KernelRfl
import Derived.RowKit3
import Derived.Deep.LoopGhost
import Derived.Deep.QuietTactic
import Derived.BigQuiet
import Derived.WideLaws
import Derived.Deep.DeepCutAuto
import Derived.Deep.CutBlock
import Derived.Deep.RegionHeld3
import Derived.Laws.Rows
import Derived.Lib.AppendStr
import Derived.ArgAppend
import Derived.Laws.IdiomCopy
import Derived.OrdersHeld
import Derived.Laws.BitsLemmas
import Derived.RowKit
import Derived.StillTailTactics
import Derived.Test.YtfcmdhimlfoofaaWWords
import Derived.Test.YtfcmdhimlfoofaaWLast
import Derived.Test.YtfcmdhimlfoofaaWMore
import Derived.Lib.Hide
import Derived.LaidEql
import Derived.Outline
import Derived.Deep.MidRow
import Derived.Deep.WholeRow
import Derived.Deep.DrawnRows
import Derived.Test.YtfcmdhimlfoofaaMBC
import Derived.Test.YtfcmdhimlfoofaaMBB
import Derived.Test.YtfcmdhimlfoofaaCount
import Derived.Test.YtfcmdhimlfoofaaParse
import Derived.Test.YtfcmdhimlfoofaaMBY
import Derived.Test.YtfcmdhimlfoofaaMBE
import Derived.Test.YtfcmdhimlfoofaaRows
import Derived.Test.YtfcmdhimlfoofaaWSized
import Derived.ProofKit
import Derived.OpenShut
import Derived.ShutString
import Derived.ChangeOld
import Derived.SizedLaws
/- A message's Parse: walked. -/
namespace Go.Proofs.Ytfcmdhimlfoofaa.Hand
open Go Go.RowKit Go.Proofs.Ytfcmdhimlfoofaa.Plain Go.Proofs.Ytfcmdhimlfoofaa.PAll Go.Proofs.YtfcmdhimlfoofaaW.PrintWords Go.Proofs.YtfcmdhimlfoofaaW.PrintLast Go.Proofs.YtfcmdhimlfoofaaW.PrintMore
set_option linter.unusedVariables false
set_option linter.unusedSimpArgs false
set_option maxRecDepth 100000
attribute [local go_sem ↓] Go.wp_at_zero Go.wp_at_succ
theorem take_calls {Z : Array Value} {gr : Nat} {w0 w : World} {B g bo : Nat} {bs : List Int} {p : Nat} {x : Int} {m : MT} {lv hv iv dv ev : Value} (f : Nat) (hf : f < 10) (h : PSt Z gr w0 w B g bo bs p x m lv hv iv dv ev) (hb : ∀ y ∈ bs, 0 ≤ y ∧ y < 256) (hl : bs.length ≤ 100000000) (h2 : f = 2 → m.heads = []) (h7 : f = 7 → m.ents = []) :
    Calls Try.prog 33 #[.pointer (some ⟨bo, 0, none⟩), .pointer (some ⟨g, 0, none⟩), .int .i64 (f : Int)] w fun e w' => e = .returned (.tuple #[]) ∧ Took Z gr w0 w' B g bo bs (takeF bs f m p x) := by
  rcases ten hf with rfl | rfl | rfl | rfl | rfl | rfl | rfl | rfl | rfl | rfl
  · exact take_loc h hb hl
  · exact take_stop h hb hl
  · exact take_heads h hb hl (h2 rfl)
  · exact take_of h hb hl
  · exact take_block h hb hl
  · exact take_data h hb hl
  · exact take_item h hb hl
  · exact take_ents h hb hl (h7 rfl)
  · exact take_nonce h hb hl
  · exact take_code h hb hl
theorem takeF_kind (bs : List Int) (f : Nat) (m : MT) (p : Nat) (x : Int) : (takeF bs f m p x).1.kind = m.kind := by
  unfold takeF
  split <;> rfl
theorem takeF_heads (bs : List Int) (f : Nat) (hf : f ≠ 2) (m : MT) (p : Nat) (x : Int) : (takeF bs f m p x).1.heads = m.heads := by
  unfold takeF
  split
  any_goals rfl
  exact absurd rfl hf
theorem takeF_ents (bs : List Int) (f : Nat) (hf : f ≠ 7) (m : MT) (p : Nat) (x : Int) : (takeF bs f m p x).1.ents = m.ents := by
  unfold takeF
  split
  any_goals rfl
  exact absurd rfl hf
theorem foldP_kind (bs : List Int) (m : MT) (p : Nat) (x : Int) : ∀ k, (foldP bs m p x k).1.kind = m.kind
  | 0 => rfl
  | k + 1 => by
    unfold foldP
    split
    · rw [takeF_kind]; exact foldP_kind bs m p x k
    · exact foldP_kind bs m p x k
theorem foldP_heads (bs : List Int) (m : MT) (p : Nat) (x : Int) : ∀ k, k ≤ 2 → (foldP bs m p x k).1.heads = m.heads
  | 0, _ => rfl
  | k + 1, h => by
    unfold foldP
    split
    · rw [takeF_heads bs k (by omega)]; exact foldP_heads bs m p x k (by omega)
    · exact foldP_heads bs m p x k (by omega)
theorem foldP_ents (bs : List Int) (m : MT) (p : Nat) (x : Int) : ∀ k, k ≤ 7 → (foldP bs m p x k).1.ents = m.ents
  | 0, _ => rfl
  | k + 1, h => by
    unfold foldP
    split
    · rw [takeF_ents bs k (by omega)]; exact foldP_ents bs m p x k (by omega)
    · exact foldP_ents bs m p x k (by omega)
theorem infoMM : (Try.prog.info? 33).map (fun i => (i.zero, i.size)) = some (some (.agg (mcells nilMA zMP).toArray), 73) := by kernel_rfl
theorem built_zm : Try.prog.built 33 [] = some (mcells nilMA zMP).toArray := by kernel_rfl
theorem built_km (k : Int) : Try.prog.built 33 [(0, .int .i64 k)] = some (xcells (.slice none 0 0) (.slice none 0 0) (.slice none 0 0) (.slice none 0 0) (.slice none 0 0) { zMP with kind := k }).toArray := by kernel_rfl
theorem zMP_MC (w : World) : MC w nilMA zMP :=
  ⟨Kd.C_nil _ _, Nat.le_refl _, Kd.C_nil _ _, Nat.le_refl _, Kd.C_nil _ _, Nat.le_refl _, Kd.C_nil _ _, Nat.le_refl _, Kd.C_nil _ _, Nat.le_refl _⟩
/-- What is read of the message in the end. -/
theorem PSt.done {Z : Array Value} {gr : Nat} {w0 w : World} {B g bo : Nat} {bs : List Int} {p : Nat} {x : Int} {m : MT} {lv hv iv dv ev : Value} (h : PSt Z gr w0 w B g bo bs p x m lv hv iv dv ev) (cs : Array Value) : ∃ a, xcells lv hv iv dv ev m = mcells a m ∧ MC (w.setRow gr cs) a m := by
  have hm : ∀ {α : Type} {d : Kd α} {e : Nat} {v : Value} {xs : List α}, d.R e w (g + 1) (fun k => k ≠ g) v xs → d.R e (w.setRow gr cs) (g + 1) (fun k => k ≠ g) v xs := fun hr =>
    Kd.R_mono (Kd.R_move (Kd.R_bound hr) (fun k hk => setRow_other _ _ _ _ (by have := hk.2.1; have := h.o2; have := h.o3; omega))) (fun _ hk => hk.1)
  obtain ⟨A1, c1, rfl, l1, C1⟩ := Kd.R_reads (hm h.rl)
  obtain ⟨A2, c2, rfl, l2, C2⟩ := Kd.R_reads (hm h.rh)
  obtain ⟨A3, c3, rfl, l3, C3⟩ := Kd.R_reads (hm h.ri)
  obtain ⟨A4, c4, rfl, l4, C4⟩ := Kd.R_reads (hm h.rda)
  obtain ⟨A5, c5, rfl, l5, C5⟩ := Kd.R_reads (hm h.re)
  exact ⟨⟨A1, c1, A2, c2, A3, c3, A4, c4, A5, c5⟩, rfl, C1, l1, C2, l2, C3, l3, C4, l4, C5, l5⟩
set_option maxHeartbeats 8000000 in
theorem mparse_calls (A : Option Addr) (n c : Nat) (bs : List Int) (w : World) (hn : n = bs.length) (hr : Kd.C (Kd.int .u8) w A n bs) (hc : n ≤ c) (hb : ∀ y ∈ bs, 0 ≤ y ∧ y < 256) (hl : n ≤ 100000000) :
    Calls Try.prog 15 #[.slice A n c] w fun e w' => ∃ a, e = .returned (.tuple #[mV a (parseM bs).1, .int .i64 (parseM bs).2]) ∧ MC w' a (parseM bs).1 ∧ Below w.heap.size w w' := by
  have HR := Lib.hid hr
  have HN := Lib.hid hn
  have HC := Lib.hid hc
  have HBY := Lib.hid hb
  have HL := Lib.hid hl
  have hz := (zero_of_info infoMM).1
  have hzs : (mcells nilMA zMP).toArray.size = 73 := by rfl
  have hz1 := all_oneCell_toArray (mcells_one nilMA zMP)
  have hbz := built_zm
  obtain ⟨Z, hZ⟩ : ∃ Z, (mcells nilMA zMP).toArray = Z := ⟨_, rfl⟩
  rw [hZ] at hz hzs hz1 hbz
  have HZ := Lib.hid (show Value.agg Z = mV nilMA zMP by rw [mV, hZ])
  have HZI := Lib.hid (And.intro (show (Try.prog.info? 33).map (·.size) = some Z.size by rw [hzs]; exact (zero_of_info infoMM).2) (And.intro hzs (And.intro hz1 hbz)))
  have HU := Lib.hid Try.underlying33
  have HB0 := Lib.hid (below_alloc (Below.refl w.heap.size w) (.cells Z 33))
  have HG0 := Lib.hid (show (w.alloc (.cells Z 33)).heap[w.heap.size]? = some (.cells Z 33 (0, 0)) by simpa using heap_alloc_new w _)
  obtain ⟨RM, hRM⟩ : ∃ M, parseM bs = M := ⟨_, rfl⟩
  have HRM := Lib.hid hRM
  rw [hRM]
  clear hr hc hb hl hzs hz1 hbz hZ hRM
  by_cases hbig : 200000 < n
  · have b1 : decide ((200000 : Int) < (n : Int)) = true := decide_eq_true (by omega)
    have hRM : RM = (zMP, 4) := by rw [← HRM.out]; unfold parseM; rw [if_pos (by omega)]
    rw [hRM]
    clear hn hbig HRM hRM
    go_enter Try.func15, Try.ntmps15
    go_wp2_with (first
      | ((with_reducible show wpList _ _ _ (Oper.mk _ (Op.build _ _) _ _ _ _ :: _) _ _); (go_loud (refine wpl_build rfl 33 _ rfl #[] (by simp [Act.eval]) Z HZI.out.2.2.2 ?_)))
      | ((with_reducible show wpList _ _ _ (Oper.mk _ (Op.store _ (.tmp 2) _) _ _ _ _ :: _) _ _); (go_loud (refine wpl_store_new rfl 33 (.tmp 2) (.tmp 12) rfl Z Z rfl rfl HZI.out.1 rfl HZI.out.2.2.1 ?_))))
    exact bodyPost_ret (results_ct rfl _ _ w.heap.size 33 Z (0, 0) _ rfl HG0.out HU.out rfl HZI.out.1) rfl ⟨nilMA, by rw [HZ.out]; rfl, zMP_MC _, HB0.out⟩
  have b1 : decide ((200000 : Int) < (n : Int)) = false := decide_eq_false (by omega)
  have HSML := Lib.hid (show ¬ 200000 < bs.length by omega)
  clear hn hbig
  go_enter Try.func15, Try.ntmps15
  go_wp2_with fail
  refine (cof_calls A n c bs _ HN.out (by have := Kd.C_below HR.out HB0.out; rw [HN.out] at this; exact this) (by have := HC.out; have := HN.out; omega) (by have := HL.out; have := HN.out; omega)).mono ?_
  rintro e w1 ⟨g, rfl, hg1, hp1, hb1⟩
  have HG1 := Lib.hid ((hb1.block _ (blk_lt HG0.out)).trans HG0.out)
  have HB1 := Lib.hid (HB0.out.trans (Below.mono hb1 HB0.out.size))
  have HGE := Lib.hid (show w.heap.size + 1 ≤ g by rw [World.size_alloc] at hg1; exact hg1)
  rw [World.size_alloc] at hp1
  have HP1 := Lib.hid hp1
  clear hp1 hb1 hg1
  go_wp2_with fail
  refine (cnumr_calls (p := 0) HP1.out HBY.out (Nat.zero_le _) (by have := HL.out; have := HN.out; omega) 1).mono ?_
  rintro e w2 ⟨rfl, hp2, hk2⟩
  have hkr : numR bs 0 0 1 = kindR bs := rfl
  rw [hkr] at hp2 ⊢
  have hby : 0 ≤ (kindR bs).1 ∧ (kindR bs).1 < 256 := numR_byte HBY.out 0 0
  have hle : (kindR bs).2.1 ≤ bs.length := numR_le (Nat.zero_le _) _ _
  have hPM : parseM bs = if (kindR bs).2.2 ≠ 0 then (zMP, (kindR bs).2.2) else if (kindR bs).1 < 1 ∨ 9 < (kindR bs).1 then (zMP, 3) else if endR bs (bodyP bs).2.1 (bodyP bs).2.2 ≠ 0 then (zMP, endR bs (bodyP bs).2.1 (bodyP bs).2.2) else ((bodyP bs).1, 0) := by unfold parseM; rw [if_neg HSML.out]
  have hBO : bodyP bs = foldP bs { zMP with kind := (kindR bs).1 } (kindR bs).2.1 (kindR bs).2.2 10 := rfl
  rw [hBO] at hPM
  rw [HRM.out] at hPM
  obtain ⟨⟨kd, p1, x1⟩, hK⟩ : ∃ s, kindR bs = s := ⟨_, rfl⟩
  rw [hK] at hp2 hby hle hPM ⊢
  simp only at hp2 hby hle hPM ⊢
  have HPM := Lib.hid hPM
  have HG2 := Lib.hid (hk2.2.blk HG1.out (by have := HGE.out; omega) (by simp))
  have HB2 := Lib.hid (HB1.out.trans (Below.mono hk2.1 (by omega)))
  have hw : IntKind.i64.wrap kd = kd := IntWalk.i64_in _ (by omega)
  have hw2 : wrap64 kd = kd := IntWalk.wrap64_in _ ⟨by omega, by omega⟩
  have hxl := xcells_len (.slice none 0 0) (.slice none 0 0) (.slice none 0 0) (.slice none 0 0) (.slice none 0 0) { zMP with kind := kd } rfl rfl
  have hx1 := all_oneCell_toArray (xcells_one (.slice none 0 0) (.slice none 0 0) (.slice none 0 0) (.slice none 0 0) (.slice none 0 0) { zMP with kind := kd } rfl rfl rfl rfl rfl)
  have hbk := built_km kd
  have hP3 : PSt Z w.heap.size w (w2.alloc (.cells (xcells (.slice none 0 0) (.slice none 0 0) (.slice none 0 0) (.slice none 0 0) (.slice none 0 0) { zMP with kind := kd }).toArray 33)) (w.heap.size + 1) g w2.heap.size bs p1 x1 { zMP with kind := kd } (.slice none 0 0) (.slice none 0 0) (.slice none 0 0) (.slice none 0 0) (.slice none 0 0) :=
    ⟨hle, hp2.alloc _, by simpa using heap_alloc_new w2 _, Kd.R_nil _ _ _ _ _, Kd.R_nil _ _ _ _ _, Kd.R_nil _ _ _ _ _, Kd.R_nil _ _ _ _ _, Kd.R_nil _ _ _ _ _, rfl, rfl, HB2.out.alloc HB2.out.size _, blk_alloc HG2.out _, Nat.le_refl _, Nat.lt_succ_self _, hp2.1, hp2.lt⟩
  obtain ⟨X, hX⟩ : ∃ X, (xcells (.slice none 0 0) (.slice none 0 0) (.slice none 0 0) (.slice none 0 0) (.slice none 0 0) { zMP with kind := kd }).toArray = X := ⟨_, rfl⟩
  rw [hX] at hx1 hbk hP3
  have hXS : X.size = 73 := by rw [← hX]; simpa using hxl
  have HXI := Lib.hid (And.intro (show (Try.prog.info? 33).map (·.size) = some X.size by rw [hXS]; exact (zero_of_info infoMM).2) (And.intro (show Z.size = X.size by rw [HZI.out.2.1, hXS]) (And.intro hx1 hbk)))
  have HP3 := Lib.hid hP3
  have HKB := Lib.hid hby
  clear hp2 hk2 hkr hby hle hPM hBO hK hxl hx1 hbk hP3 hX hXS
  go_wp2_with (first
    | ((with_reducible show wpList _ _ _ (Oper.mk _ (Op.build _ _) _ _ _ _ :: _) _ _); (go_loud (refine wpl_build rfl 33 _ rfl #[(0, .int .i64 kd)] (by first | (simp [Act.eval]; done) | (simp [Act.eval, hw]; done) | (simp [Act.eval, hw2]; done)) X HXI.out.2.2.2 ?_)))
    | ((with_reducible show wpList _ _ _ (Oper.mk _ (Op.store _ (.tmp 5) _) _ _ _ _ :: _) _ _); (go_loud (refine wpl_store_new rfl 33 (.tmp 5) (.tmp 18) rfl Z X rfl rfl HXI.out.1 HXI.out.2.1 HXI.out.2.2.1 ?_))))
  refine (cerr_calls HP3.out.rd).mono ?_
  rintro e w3 ⟨rfl, rfl⟩
  clear hw hw2
  obtain ⟨W3, hW3⟩ : ∃ W, w2.alloc (.cells X 33) = W := ⟨_, rfl⟩
  rw [hW3] at HP3 ⊢
  obtain ⟨bo, hbo⟩ : ∃ b, w2.heap.size = b := ⟨_, rfl⟩
  rw [hbo] at HP3 ⊢
  clear hW3 hbo
  by_cases hx : x1 = 0
  · have t1 : (x1 == 0) = true := by simpa using hx
    have HX0 := Lib.hid hx
    clear hx
    obtain ⟨_, z0, _⟩ := HP3.out.cells
    go_wp2_with fail
    clear t1
    refine (name_calls kd _).mono ?_
    rintro e w4 ⟨rfl, hb4⟩
    have HP4 := Lib.hid (HP3.out.below hb4)
    clear hb4 z0
    by_cases hk : kd < 1 ∨ 9 < kd
    · have hnm := name_none hk
      rw [hnm]
      have hRM : RM = (zMP, 3) := by rw [HPM.out, if_neg (by rw [HX0.out]; simp), if_pos hk]
      have HZB := Lib.hid HP4.out.zb
      have HBW := Lib.hid HP4.out.bel
      clear hnm hk HPM HRM
      subst hRM
      go_wp2_with (first
        | ((with_reducible show wpList _ _ _ (Oper.mk _ (Op.build _ _) _ _ _ _ :: _) _ _); (go_loud (refine wpl_build rfl 33 _ rfl #[] (by simp [Act.eval]) Z HZI.out.2.2.2 ?_)))
        | ((with_reducible show wpList _ _ _ (Oper.mk _ (Op.store _ (.tmp 2) _) _ _ _ _ :: _) _ _); (go_loud (refine wpList_store_row rfl 33 (.tmp 2) (.tmp 29) rfl w.heap.size Z rfl rfl 33 Z HZB.out HZI.out.1 rfl HZI.out.2.2.1 ?_))))
      exact bodyPost_ret (results_ct rfl _ _ w.heap.size 33 Z (0, 0) _ rfl (setRow_heap _ _ _ _ _ _ HZB.out) HU.out rfl HZI.out.1) rfl ⟨nilMA, by rw [HZ.out]; rfl, zMP_MC _, below_setRow HBW.out (Nat.le_refl _) _⟩
    have hnm := name_list (k := kd) (by omega) (by omega)
    have HK1 := Lib.hid (show 1 ≤ kd by omega)
    have HK9 := Lib.hid (show kd ≤ 9 by omega)
    have hPM2 : RM = if endR bs (foldP bs { zMP with kind := kd } p1 0 10).2.1 (foldP bs { zMP with kind := kd } p1 0 10).2.2 ≠ 0 then (zMP, endR bs (foldP bs { zMP with kind := kd } p1 0 10).2.1 (foldP bs { zMP with kind := kd } p1 0 10).2.2) else ((foldP bs { zMP with kind := kd } p1 0 10).1, 0) := by
      have h1 := HPM.out
      rw [HX0.out] at h1
      rw [h1, if_neg (by simp), if_neg hk]
    have HPM2 := Lib.hid hPM2
    have HP4' := Lib.hid (show PSt Z w.heap.size w w4 (w.heap.size + 1) g bo bs p1 0 { zMP with kind := kd } (.slice none 0 0) (.slice none 0 0) (.slice none 0 0) (.slice none 0 0) (.slice none 0 0) by have := HP4.out; rw [HX0.out] at this; exact this)
    obtain ⟨nm, hnmm⟩ : ∃ s, nameM kd = s := ⟨_, rfl⟩
    rw [hnmm] at hnm ⊢
    clear hk hnmm hPM2 HPM HP4 HP3 HRM
    go_wp2_with fail
    clear hnm
    go_loopw [30] (fun i wr => ∃ k : Nat, k ≤ 10 ∧ i = .int .i64 (k : Int) ∧ Hid (∃ lv hv iv dv ev, PSt Z w.heap.size w wr (w.heap.size + 1) g bo bs (foldP bs { zMP with kind := kd } p1 0 k).2.1 (foldP bs { zMP with kind := kd } p1 0 k).2.2 (foldP bs { zMP with kind := kd } p1 0 k).1 lv hv iv dv ev)) (fun i _ => (10 - intOf i).toNat)
    case atStart => exact ⟨0, Nat.zero_le _, rfl, Lib.hid ⟨_, _, _, _, _, HP4'.out⟩⟩
    case round =>
      obtain ⟨k, hk, rfl, H⟩ := hrel
      obtain ⟨lv, hv, iv, dv, ev, hP⟩ := H.out
      have hkd := foldP_kind bs { zMP with kind := kd } p1 0 k
      have hhd := foldP_heads bs { zMP with kind := kd } p1 0 k
      have hen := foldP_ents bs { zMP with kind := kd } p1 0 k
      have hst : foldP bs { zMP with kind := kd } p1 0 (k + 1) = if usesM kd k = true ∧ (foldP bs { zMP with kind := kd } p1 0 k).2.2 = 0 then takeF bs k (foldP bs { zMP with kind := kd } p1 0 k).1 (foldP bs { zMP with kind := kd } p1 0 k).2.1 (foldP bs { zMP with kind := kd } p1 0 k).2.2 else foldP bs { zMP with kind := kd } p1 0 k := rfl
      by_cases hlt : k < 10
      · have b2 : decide ((k : Int) < 10) = true := decide_eq_true (by omega)
        have wk : wrap64 ((k : Int) + 1) = ((k + 1 : Nat) : Int) := (wrap64_id (by omega) (by omega)).trans (by omega)
        obtain ⟨⟨m, q, y⟩, hS⟩ : ∃ s, foldP bs { zMP with kind := kd } p1 0 k = s := ⟨_, rfl⟩
        rw [hS] at hP hkd hhd hen hst
        simp only at hP hkd hhd hen hst
        obtain ⟨_, z0, _⟩ := hP.cells
        rw [hkd] at z0
        have HPK := Lib.hid hP
        have HST := Lib.hid hst
        have HHD := Lib.hid (And.intro hhd hen)
        have HLT := Lib.hid hlt
        clear hP hkd hhd hen hst hS H hk hlt
        go_wp2_with fail
        with_reducible refine (uses_calls kd k _ HK1.out HK9.out HLT.out).mono ?_
        rintro e w5 ⟨rfl, hb5⟩
        have HP5 := Lib.hid (HPK.out.below hb5)
        clear hb5 z0
        obtain ⟨u, hu⟩ : ∃ u, usesM kd k = u := ⟨_, rfl⟩
        have HUU := Lib.hid hu
        rw [hu]
        clear hu
        cases u with
        | false =>
          go_wp2_with fail
          go_roundw
          case rel => exact ⟨k + 1, by have := HLT.out; omega, by rw [wk], Lib.hid ⟨lv, hv, iv, dv, ev, by rw [HST.out, if_neg (by rw [HUU.out]; simp)]; exact HP5.out⟩⟩
          case measure => exact meas10 HLT.out wk
        | true =>
          have HE5 := Lib.hid (cerr_calls HP5.out.rd)
          go_wp2_with fail
          refine HE5.out.mono ?_
          rintro e w6 ⟨rfl, rfl⟩
          by_cases hy : y = 0
          · have t1 : (y == 0) = true := by simpa using hy
            have HTK := Lib.hid (take_calls k HLT.out HP5.out HBY.out (by have := HL.out; have := HN.out; omega) (fun e => HHD.out.1 (by omega)) (fun e => HHD.out.2 (by omega)))
            have HY := Lib.hid hy
            clear hy
            go_wp2_with fail
            refine HTK.out.mono ?_
            rintro e w7 ⟨rfl, hT⟩
            obtain ⟨lv', hv', iv', dv', ev', hP7⟩ := hT
            have HP7 := Lib.hid hP7
            clear hP7 t1
            go_wp2_with fail
            go_roundw
            case rel => exact ⟨k + 1, by have := HLT.out; omega, by rw [wk], Lib.hid ⟨lv', hv', iv', dv', ev', by rw [HST.out, if_pos ⟨HUU.out, HY.out⟩]; exact HP7.out⟩⟩
            case measure => exact meas10 HLT.out wk
          · have t1 : (y == 0) = false := by simpa using hy
            have t2 : (y = 0) = False := eq_false hy
            have HY := Lib.hid hy
            clear hy
            go_wp2_with fail
            go_roundw
            case rel => exact ⟨k + 1, by have := HLT.out; omega, by rw [wk], Lib.hid ⟨lv, hv, iv, dv, ev, by rw [HST.out, if_neg (by intro h; exact HY.out h.2)]; exact HP5.out⟩⟩
            case measure => exact meas10 HLT.out wk
      · have hk10 : k = 10 := by omega
        subst hk10
        rw [show ((10 : Nat) : Int) = 10 from rfl]
        have HPM3 := Lib.hid HPM2.out
        obtain ⟨⟨m, q, y⟩, hS⟩ : ∃ s, foldP bs { zMP with kind := kd } p1 0 10 = s := ⟨_, rfl⟩
        rw [hS] at hP HPM3
        simp only at hP HPM3
        have HPK := Lib.hid hP
        have HEE := Lib.hid (cend_calls hP.rd hP.le (by have := HL.out; have := HN.out; omega))
        clear hP hkd hhd hen hst hS H hk hlt
        go_wp2_with fail
        refine HEE.out.mono ?_
        rintro e w5 ⟨rfl, hr5, hk5⟩
        have HP5 := Lib.hid (HPK.out.read hr5 hk5 HPK.out.le)
        clear hr5 hk5 HEE
        obtain ⟨E, hE⟩ : ∃ E, endR bs q y = E := ⟨_, rfl⟩
        rw [hE] at HP5 HPM3 ⊢
        clear hE
        have HZB := Lib.hid HP5.out.zb
        by_cases hE0 : E = 0
        · have t1 : (E == 0) = true := by simpa using hE0
          have hRM : RM = (m, 0) := by rw [HPM3.out, if_neg (by rw [hE0]; simp)]
          have hOC := xcells_len lv hv iv dv ev m HP5.out.s32 HP5.out.b32
          obtain ⟨⟨Al, cl, hl1⟩, ⟨Ah, ch, hh⟩, ⟨Ai, ci, hi⟩, ⟨Ad, cd, hd⟩, ⟨Ae, ce, he⟩⟩ := And.intro (Kd.R_slice HP5.out.rl) (And.intro (Kd.R_slice HP5.out.rh) (And.intro (Kd.R_slice HP5.out.ri) (And.intro (Kd.R_slice HP5.out.rda) (Kd.R_slice HP5.out.re))))
          have hone := all_oneCell_toArray (xcells_one lv hv iv dv ev m (by rw [hl1]; rfl) (by rw [hh]; rfl) (by rw [hi]; rfl) (by rw [hd]; rfl) (by rw [he]; rfl))
          obtain ⟨a, ha, hMC⟩ := HP5.out.done (xcells lv hv iv dv ev m).toArray
          have HRV := Lib.hid (show (Value.agg (xcells lv hv iv dv ev m).toArray) = mV a m by rw [ha]; rfl)
          have HOB := Lib.hid HP5.out.blk
          have hZSZ : Z.size = (xcells lv hv iv dv ev m).toArray.size := by rw [HZI.out.2.1]; simpa using hOC.symm
          have hsz : (Try.prog.info? 33).map (·.size) = some (xcells lv hv iv dv ev m).toArray.size := by rw [(zero_of_info infoMM).2]; simpa using hOC.symm
          obtain ⟨OC, hOCC⟩ : ∃ O, (xcells lv hv iv dv ev m).toArray = O := ⟨_, rfl⟩
          rw [hOCC] at HRV hMC HOB hZSZ hsz hone
          have HMC := Lib.hid hMC
          have HSZF := Lib.hid (And.intro hsz (And.intro hZSZ hone))
          have HBW := Lib.hid (below_setRow HP5.out.bel (Nat.le_refl w.heap.size) OC)
          clear hE0 hOC hl1 hh hi hd he hone ha hMC hZSZ hsz hOCC HPM3 HPM2
          subst hRM
          go_wp2_with (first
            | ((with_reducible show wpList _ _ _ (Oper.mk _ (Op.load 33 (.tmp 5)) _ _ _ _ :: _) _ _); (go_loud (refine wpList_load_row rfl 33 (.tmp 5) rfl bo rfl 33 OC (0, 0) _ HOB.out HU.out rfl HSZF.out.1 ?_)))
            | ((with_reducible show wpList _ _ _ (Oper.mk _ (Op.store _ (.tmp 2) _) _ _ _ _ :: _) _ _); (go_loud (refine wpList_store_row rfl 33 (.tmp 2) (.tmp 52) rfl w.heap.size OC rfl rfl 33 Z HZB.out HSZF.out.1 HSZF.out.2.1 HSZF.out.2.2 ?_))))
          exact bodyPost_ret (results_ct rfl _ _ w.heap.size 33 OC (0, 0) _ rfl (setRow_heap _ _ _ _ _ _ HZB.out) HU.out rfl HSZF.out.1) rfl ⟨a, by rw [HRV.out]; rfl, HMC.out, HBW.out⟩
        · have t1 : (E == 0) = false := by simpa using hE0
          have t2 : (E != 0) = true := by simpa using hE0
          have t3 : (E = 0) = False := eq_false hE0
          have hRM : RM = (zMP, E) := by rw [HPM3.out, if_pos hE0]
          have HBW := Lib.hid HP5.out.bel
          clear hE0 HPM3 HPM2
          subst hRM
          go_wp2_with (first
            | ((with_reducible show wpList _ _ _ (Oper.mk _ (Op.build _ _) _ _ _ _ :: _) _ _); (go_loud (refine wpl_build rfl 33 _ rfl #[] (by simp [Act.eval]) Z HZI.out.2.2.2 ?_)))
            | ((with_reducible show wpList _ _ _ (Oper.mk _ (Op.store _ (.tmp 2) _) _ _ _ _ :: _) _ _); (go_loud (refine wpList_store_row rfl 33 (.tmp 2) (.tmp 50) rfl w.heap.size Z rfl rfl 33 Z HZB.out HZI.out.1 rfl HZI.out.2.2.1 ?_))))
          exact bodyPost_ret (results_ct rfl _ _ w.heap.size 33 Z (0, 0) _ rfl (setRow_heap _ _ _ _ _ _ HZB.out) HU.out rfl HZI.out.1) rfl ⟨nilMA, by rw [HZ.out]; rfl, zMP_MC _, below_setRow HBW.out (Nat.le_refl _) _⟩
  · have t1 : (x1 == 0) = false := by simpa using hx
    have t2 : (x1 != 0) = true := by simpa using hx
    have t3 : (x1 = 0) = False := eq_false hx
    have hRM : RM = (zMP, x1) := by rw [HPM.out, if_pos hx]
    have HZB := Lib.hid HP3.out.zb
    have HBW := Lib.hid HP3.out.bel
    clear hx HPM HRM
    subst hRM
    go_wp2_with (first
      | ((with_reducible show wpList _ _ _ (Oper.mk _ (Op.build _ _) _ _ _ _ :: _) _ _); (go_loud (refine wpl_build rfl 33 _ rfl #[] (by simp [Act.eval]) Z HZI.out.2.2.2 ?_)))
      | ((with_reducible show wpList _ _ _ (Oper.mk _ (Op.store _ (.tmp 2) _) _ _ _ _ :: _) _ _); (go_loud (refine wpList_store_row rfl 33 (.tmp 2) (.tmp 23) rfl w.heap.size Z rfl rfl 33 Z HZB.out HZI.out.1 rfl HZI.out.2.2.1 ?_))))
    exact bodyPost_ret (results_ct rfl _ _ w.heap.size 33 Z (0, 0) _ rfl (setRow_heap _ _ _ _ _ _ HZB.out) HU.out rfl HZI.out.1) rfl ⟨nilMA, by rw [HZ.out]; rfl, zMP_MC _, below_setRow HBW.out (Nat.le_refl _) _⟩
end Go.Proofs.Ytfcmdhimlfoofaa.Hand


/- A message's bytes are taken again: the plain law. -/
namespace Go.Proofs.Ytfcmdhimlfoofaa.Hand
open Go Go.RowKit Go.Proofs.Ytfcmdhimlfoofaa.Plain Go.Proofs.YtfcmdhimlfoofaaW.PrintWords Go.Proofs.YtfcmdhimlfoofaaW.PrintLast Go.Proofs.YtfcmdhimlfoofaaW.PrintMore
set_option linter.unusedVariables false
set_option linter.unusedSimpArgs false
theorem drop_next {bs ys r : List Int} {p : Nat} (h : bs.drop p = ys ++ r) : bs.drop (p + ys.length) = r := by
  rw [← List.drop_drop, h, List.drop_left]
theorem take_frontD {bs ys r : List Int} {p : Nat} (hp : p ≤ bs.length) (h : bs.drop p = ys ++ r) : takeR bs p 0 (ys.length : Int) = (ys, p + ys.length, 0) := by
  rw [takeR_at bs p hp, h, if_neg (by simp), List.take_left]
theorem num_frontD {bs r : List Int} {p n : Nat} (a : Int) (hp : p ≤ bs.length) (hn : n < 256 ^ wid a) (h : bs.drop p = digs (wid a) n ++ r) : numR bs p 0 a = ((n : Int), p + wid a, 0) := by
  have h1 := take_frontD hp h
  rw [digs_length] at h1
  unfold numR
  rw [h1, val_digs_lt _ n hn]
theorem var_frontD {bs r : List Int} {p n : Nat} (hp : p ≤ bs.length) (hn : n < 18446744073709551616) {most : Int} (hm : (n : Int) ≤ most) (h : bs.drop p = varB n ++ r) : varR bs p 0 most = ((n : Int), p + (varB n).length, 0) := by
  rw [varR_count _ _ hp, h, count_back n hn r hm]
theorem text_frontD {bs r ys : List Int} {p : Nat} (hp : p ≤ bs.length) {most : Int} (hm : 0 ≤ most) (hy : (ys.length : Int) ≤ most) (hy2 : ys.length < 18446744073709551616) (h : bs.drop p = textB ys ++ r) : textR bs p 0 most = (ys, p + (textB ys).length, 0) := by
  have hmx : mx most 0 = most := by unfold mx; split <;> omega
  have h' : bs.drop p = varB ys.length ++ (ys ++ r) := by rw [h, textB, List.append_assoc]
  have hv := var_frontD hp hy2 hy h'
  have hp2 : p + (varB ys.length).length ≤ bs.length := by
    have := congrArg List.length h'
    simp only [List.length_drop, List.length_append] at this
    omega
  have ht := take_frontD hp2 (drop_next h')
  unfold textR
  rw [hmx, hv]
  simp only
  rw [ht]
  unfold text2 textB
  simp [List.length_append, Nat.add_assoc]
theorem hash_frontD {bs r ys : List Int} {p : Nat} (hp : p ≤ bs.length) (h32 : ys.length = 32) (h : bs.drop p = ys ++ r) : hashR bs p 0 = (ys, p + 32, 0) := by
  have ht := take_frontD hp h
  rw [h32] at ht
  unfold hashR
  rw [show ((32 : Nat) : Int) = 32 from rfl] at ht
  rw [ht]
  simp [h32]
theorem le_of_drop {bs ys r : List Int} {p : Nat} (hp : p ≤ bs.length) (h : bs.drop p = ys ++ r) : p + ys.length ≤ bs.length := by
  have := congrArg List.length h
  simp only [List.length_drop, List.length_append] at this
  omega
/-- A list, element by element. -/
theorem taken_frontD {bs r : List Int} {p : Nat} (hp : p ≤ bs.length) (l : List (List Int)) (h32 : ∀ h ∈ l, h.length = 32) (h : bs.drop p = l.flatten ++ r) : ∀ k, k ≤ l.length → takenS bs p 0 k = (l.take k, p + (l.take k).flatten.length, 0) ∧ bs.drop (p + (l.take k).flatten.length) = (l.drop k).flatten ++ r
  | 0, _ => by simp [takenS, h]
  | k + 1, hk => by
    obtain ⟨i1, i2⟩ := taken_frontD hp l h32 h k (by omega)
    have hkl : k < l.length := by omega
    have hd : l.drop k = l[k] :: l.drop (k + 1) := List.drop_eq_getElem_cons hkl
    have h3 := h32 l[k] (List.getElem_mem hkl)
    have hle : p + (l.take k).flatten.length ≤ bs.length := by
      have h9 : bs.drop p = (l.take k).flatten ++ ((l.drop k).flatten ++ r) := by rw [h, ← List.append_assoc, ← List.flatten_append, List.take_append_drop]
      exact le_of_drop hp h9
    rw [hd, List.flatten_cons, List.append_assoc] at i2
    have hh := hash_frontD hle h3 i2
    have e : l.take (k + 1) = l.take k ++ [l[k]] := by rw [List.take_succ_eq_append_getElem hkl]
    have e2 : (l.take (k + 1)).flatten.length = (l.take k).flatten.length + 32 := by rw [e, List.flatten_append, List.length_append]; simp [h3]
    refine ⟨?_, ?_⟩
    · unfold takenS
      rw [i1]
      simp only
      rw [hh, e, ← e]
      rw [e2]
      simp only [e, Nat.add_assoc]
    · rw [e2, ← Nat.add_assoc]
      have := drop_next i2
      rw [h3] at this
      exact this
theorem takenR_frontD {bs r : List Int} {p : Nat} (hp : p ≤ bs.length) (l : List (List Int)) (h32 : ∀ h ∈ l, h.length = 32) {most : Int} (hm : (l.length : Int) ≤ most) (hl : l.length < 18446744073709551616) (h : bs.drop p = hashesB l ++ r) : takenR bs p 0 most = (l, p + (hashesB l).length, 0) := by
  have h' : bs.drop p = varB l.length ++ (l.flatten ++ r) := by rw [h, hashesB, List.append_assoc]
  have hv := var_frontD hp hl hm h'
  have ht := (taken_frontD (le_of_drop hp h') l h32 (drop_next h') l.length (Nat.le_refl _)).1
  unfold takenR
  rw [hv]
  simp only [Int.toNat_natCast]
  rw [ht, List.take_length]
  unfold hashesB
  rw [List.length_append, Nat.add_assoc]
end Go.Proofs.Ytfcmdhimlfoofaa.Hand


/- A header comes back from its bytes (as chapter 07's HeadBack). -/
namespace Go.Proofs.Ytfcmdhimlfoofaa.Hand
open Go Go.RowKit Go.Proofs.Ytfcmdhimlfoofaa.Plain Go.Proofs.Ytfcmdhimlfoofaa.PAll Go.Proofs.YtfcmdhimlfoofaaW.PrintWords Go.Proofs.YtfcmdhimlfoofaaW.PrintLast Go.Proofs.YtfcmdhimlfoofaaW.PrintMore
set_option linter.unusedVariables false
set_option linter.unusedSimpArgs false
def HWf (v : Int) (p r : List Int) (t b n : Int) : Prop := p.length = 32 ∧ r.length = 32 ∧ (0 ≤ v ∧ v < 4294967296) ∧ (0 ≤ t ∧ t < 4294967296) ∧ (0 ≤ b ∧ b < 4294967296) ∧ (0 ≤ n ∧ n < 4294967296) ∧ (∀ x ∈ p, 0 ≤ x ∧ x < 256) ∧ (∀ x ∈ r, 0 ≤ x ∧ x < 256)
theorem takeR_atH {bs pre x post : List Int} {p k : Nat} (hb : bs = pre ++ (x ++ post)) (hp : pre.length = p) (hx : x.length = k) : takeR bs p 0 (k : Int) = (x, p + k, 0) := by
  subst hb hp hx
  unfold takeR
  rw [if_neg (by simp), if_neg (by simp only [List.length_append]; omega)]
  simp
theorem head_back {v : Int} {p r : List Int} {t b n : Int} (h : HWf v p r t b n) :
    headE (headB v p r t b n) = 0 ∧ (h1R (headB v p r t b n)).1 % 4294967296 = v ∧ (h2R (headB v p r t b n)).1 = p ∧ (h3R (headB v p r t b n)).1 = r ∧ (h4R (headB v p r t b n)).1 % 4294967296 = t ∧ (h5R (headB v p r t b n)).1 % 4294967296 = b ∧ (h6R (headB v p r t b n)).1 % 4294967296 = n := by
  have hlen := headB_len v p r t b n h.1 h.2.1
  obtain ⟨hp, hr, hv, ht, hb, hn, _, _⟩ := h
  have hd : ∀ x : Int, 0 ≤ x ∧ x < 4294967296 → val (digs 4 x.toNat) % 4294967296 = x := fun x hx => by
    rw [val_digs]
    have e : (256 : Nat) ^ 4 = 4294967296 := by decide
    rw [e]
    omega
  obtain ⟨bs, hbs⟩ : ∃ l, headB v p r t b n = l := ⟨_, rfl⟩
  have e0 : bs = [] ++ (digs 4 v.toNat ++ (p ++ r ++ digs 4 t.toNat ++ digs 4 b.toNat ++ digs 4 n.toNat)) := by rw [← hbs]; simp [headB]
  have e1 : bs = digs 4 v.toNat ++ (p ++ (r ++ digs 4 t.toNat ++ digs 4 b.toNat ++ digs 4 n.toNat)) := by rw [← hbs]; simp [headB]
  have e2 : bs = (digs 4 v.toNat ++ p) ++ (r ++ (digs 4 t.toNat ++ digs 4 b.toNat ++ digs 4 n.toNat)) := by rw [← hbs]; simp [headB]
  have e3 : bs = (digs 4 v.toNat ++ p ++ r) ++ (digs 4 t.toNat ++ (digs 4 b.toNat ++ digs 4 n.toNat)) := by rw [← hbs]; simp [headB]
  have e4 : bs = (digs 4 v.toNat ++ p ++ r ++ digs 4 t.toNat) ++ (digs 4 b.toNat ++ digs 4 n.toNat) := by rw [← hbs]; simp [headB]
  have e5 : bs = (digs 4 v.toNat ++ p ++ r ++ digs 4 t.toNat ++ digs 4 b.toNat) ++ (digs 4 n.toNat ++ []) := by rw [← hbs]; simp [headB]
  rw [hbs] at hlen ⊢
  have k1 := takeR_atH (p := 0) (k := 4) e0 rfl (digs_length 4 _)
  have k2 := takeR_atH (p := 4) (k := 32) e1 (digs_length 4 _) hp
  have k3 := takeR_atH (p := 36) (k := 32) e2 (by rw [List.length_append, digs_length, hp]) hr
  have k4 := takeR_atH (p := 68) (k := 4) e3 (by simp only [List.length_append, digs_length, hp, hr]) (digs_length 4 _)
  have k5 := takeR_atH (p := 72) (k := 4) e4 (by simp only [List.length_append, digs_length, hp, hr]) (digs_length 4 _)
  have k6 := takeR_atH (p := 76) (k := 4) e5 (by simp only [List.length_append, digs_length, hp, hr]) (digs_length 4 _)
  have r1 : h1R bs = (val (digs 4 v.toNat), 4, 0) := by
    unfold h1R numR
    rw [wid4h, k1]
  have r2 : h2R bs = (p, 36, 0) := by
    unfold h2R hashR
    rw [r1]
    simp only
    rw [show (32 : Int) = ((32 : Nat) : Int) from rfl, k2]
    simp only
    rw [if_pos hp]
  have r3 : h3R bs = (r, 68, 0) := by
    unfold h3R hashR
    rw [r2]
    simp only
    rw [show (32 : Int) = ((32 : Nat) : Int) from rfl, k3]
    simp only
    rw [if_pos hr]
  have r4 : h4R bs = (val (digs 4 t.toNat), 72, 0) := by
    unfold h4R numR
    rw [r3, wid4h]
    simp only
    rw [k4]
  have r5 : h5R bs = (val (digs 4 b.toNat), 76, 0) := by
    unfold h5R numR
    rw [r4, wid4h]
    simp only
    rw [k5]
  have r6 : h6R bs = (val (digs 4 n.toNat), 80, 0) := by
    unfold h6R numR
    rw [r5, wid4h]
    simp only
    rw [k6]
  refine ⟨?_, by rw [r1]; exact hd v hv, by rw [r2], by rw [r3], by rw [r4]; exact hd t ht, by rw [r5]; exact hd b hb, by rw [r6]; exact hd n hn⟩
  unfold headE endR
  rw [r6]
  simp [hlen]
theorem head_T {h : HT} (hk : HOk h) : headT (hdB h) = h := by
  have hb := head_back (v := h.v) (p := h.p) (r := h.r) (t := h.t) (b := h.b) (n := h.n) ⟨hk.p32, hk.r32, ⟨hk.v0, hk.v1⟩, ⟨hk.t0, hk.t1⟩, ⟨hk.b0, hk.b1⟩, ⟨hk.n0, hk.n1⟩, hk.pb, hk.rb⟩
  have e : headB h.v h.p h.r h.t h.b h.n = hdB h := rfl
  rw [e] at hb
  obtain ⟨b0, b1, b2, b3, b4, b5, b6⟩ := hb
  unfold headT
  rw [if_pos b0, b1, b2, b3, b4, b5, b6]
theorem heads_frontD {bs r : List Int} {p : Nat} (hp : p ≤ bs.length) (l : List HT) (hok : ∀ h ∈ l, HOk h) (h : bs.drop p = l.flatMap hdB ++ r) : ∀ k, k ≤ l.length → headsS bs p 0 k = (l.take k, p + ((l.take k).flatMap hdB).length, 0) ∧ bs.drop (p + ((l.take k).flatMap hdB).length) = (l.drop k).flatMap hdB ++ r
  | 0, _ => by simp [headsS, h]
  | k + 1, hk => by
    obtain ⟨i1, i2⟩ := heads_frontD hp l hok h k (by omega)
    have hkl : k < l.length := by omega
    have hd : l.drop k = l[k] :: l.drop (k + 1) := List.drop_eq_getElem_cons hkl
    have hkk := hok l[k] (List.getElem_mem hkl)
    have h3 := hdB_len hkk
    have hle : p + ((l.take k).flatMap hdB).length ≤ bs.length := by
      have h9 : bs.drop p = (l.take k).flatMap hdB ++ ((l.drop k).flatMap hdB ++ r) := by rw [h, ← List.append_assoc, ← List.flatMap_append, List.take_append_drop]
      exact le_of_drop hp h9
    rw [hd, List.flatMap_cons, List.append_assoc] at i2
    have hh := take_frontD hle i2
    rw [h3, show ((80 : Nat) : Int) = 80 from rfl] at hh
    have e : l.take (k + 1) = l.take k ++ [l[k]] := by rw [List.take_succ_eq_append_getElem hkl]
    have e2 : ((l.take (k + 1)).flatMap hdB).length = ((l.take k).flatMap hdB).length + 80 := by rw [e, List.flatMap_append, List.length_append]; simp [h3]
    refine ⟨?_, ?_⟩
    · unfold headsS
      rw [i1]
      simp only
      rw [hh, e2, e]
      simp only [head_T hkk, Nat.add_assoc]
    · rw [e2, ← Nat.add_assoc]
      have := drop_next i2
      rw [h3] at this
      exact this
theorem ent_frontD {bs r : List Int} {p : Nat} (hp : p ≤ bs.length) (x : ET) (hf : fitE x = true) (h32 : ∀ h ∈ x.path, h.length = 32) (h : bs.drop p = entB x ++ r) : entR bs p 0 = (x, p + (entB x).length, 0) := by
  obtain ⟨f1, f2, f3, f4, f5, f6⟩ := of_decide_eq_true hf
  have h' : bs.drop p = textB x.tx ++ (varB x.cnt.toNat ++ (varB x.idx.toNat ++ (hashesB x.path ++ r))) := by rw [h]; simp only [entB, List.append_assoc]
  have a1 := text_frontD hp (most := 700) (by decide) (by omega) (by omega) h'
  have d1 := drop_next h'
  have p1 := le_of_drop hp h'
  have a2 := var_frontD (n := x.cnt.toNat) p1 (by omega) (most := 65536) (by omega) d1
  have d2 := drop_next d1
  have p2 := le_of_drop p1 d1
  have a3 := var_frontD (n := x.idx.toNat) p2 (by omega) (most := 65536) (by omega) d2
  have d3 := drop_next d2
  have p3 := le_of_drop p2 d2
  have a4 := takenR_frontD p3 x.path h32 (most := 16) (by omega) (by omega) d3
  have b1 : e1R bs p 0 = (x.tx, p + (textB x.tx).length, 0) := a1
  have b2 : e2R bs p 0 = (x.cnt, p + (textB x.tx).length + (varB x.cnt.toNat).length, 0) := by
    unfold e2R
    rw [b1]
    simp only
    rw [a2, Int.toNat_of_nonneg f2]
  have b3 : e3R bs p 0 = (x.idx, p + (textB x.tx).length + (varB x.cnt.toNat).length + (varB x.idx.toNat).length, 0) := by
    unfold e3R
    rw [b2]
    simp only
    rw [a3, Int.toNat_of_nonneg f4]
  have b4 : e4R bs p 0 = (x.path, p + (textB x.tx).length + (varB x.cnt.toNat).length + (varB x.idx.toNat).length + (hashesB x.path).length, 0) := by
    unfold e4R
    rw [b3]
    simp only
    rw [a4]
  unfold entR
  rw [b1, b2, b3, b4]
  simp only [entB, List.length_append, Nat.add_assoc]
theorem ents_frontD {bs r : List Int} {p : Nat} (hp : p ≤ bs.length) (l : List ET) (hf : ∀ x ∈ l, fitE x = true) (h32 : ∀ x ∈ l, ∀ h ∈ x.path, h.length = 32) (h : bs.drop p = l.flatMap entB ++ r) : ∀ k, k ≤ l.length → entsS bs p 0 k = (l.take k, p + ((l.take k).flatMap entB).length, 0) ∧ bs.drop (p + ((l.take k).flatMap entB).length) = (l.drop k).flatMap entB ++ r
  | 0, _ => by simp [entsS, h]
  | k + 1, hk => by
    obtain ⟨i1, i2⟩ := ents_frontD hp l hf h32 h k (by omega)
    have hkl : k < l.length := by omega
    have hd : l.drop k = l[k] :: l.drop (k + 1) := List.drop_eq_getElem_cons hkl
    have hle : p + ((l.take k).flatMap entB).length ≤ bs.length := by
      have h9 : bs.drop p = (l.take k).flatMap entB ++ ((l.drop k).flatMap entB ++ r) := by rw [h, ← List.append_assoc, ← List.flatMap_append, List.take_append_drop]
      exact le_of_drop hp h9
    rw [hd, List.flatMap_cons, List.append_assoc] at i2
    have hh := ent_frontD hle l[k] (hf _ (List.getElem_mem hkl)) (h32 _ (List.getElem_mem hkl)) i2
    have e : l.take (k + 1) = l.take k ++ [l[k]] := by rw [List.take_succ_eq_append_getElem hkl]
    have e2 : ((l.take (k + 1)).flatMap entB).length = ((l.take k).flatMap entB).length + (entB l[k]).length := by rw [e, List.flatMap_append, List.length_append]; simp
    refine ⟨?_, ?_⟩
    · unfold entsS
      rw [i1]
      simp only
      rw [hh, e2, e]
      simp only [Nat.add_assoc]
    · rw [e2, ← Nat.add_assoc]
      exact drop_next i2
/-- A field of one message into another. -/
def setF (m0 m : MT) (f : Nat) : MT := match f with
  | 0 => { m0 with loc := m.loc }
  | 1 => { m0 with stop := m.stop }
  | 2 => { m0 with heads := m.heads }
  | 3 => { m0 with of_ := m.of_ }
  | 4 => { m0 with block := m.block }
  | 5 => { m0 with data := m.data }
  | 6 => { m0 with item := m.item }
  | 7 => { m0 with ents := m.ents }
  | 8 => { m0 with nonce := m.nonce }
  | _ => { m0 with code := m.code }
theorem takeF_front {bs r : List Int} {p : Nat} (hp : p ≤ bs.length) {m : MT} (hw : MWf m) (f : Nat) (hf : f < 10) (hfit : fitM m f = true) (m0 : MT) (h : bs.drop p = putB m f ++ r) : takeF bs f m0 p 0 = (setF m0 m f, p + (putB m f).length, 0) := by
  unfold fitM at hfit
  unfold putB at h
  match f with
  | 0 =>
    have h1 := of_decide_eq_true hfit
    have e : takeF bs 0 m0 p 0 = ({ m0 with loc := (takenR bs p 0 64).1 }, (takenR bs p 0 64).2) := rfl
    rw [e, takenR_frontD hp m.loc (fun x hx => (hw.loc x hx).1) (most := 64) (by omega) (by omega) h]
    rfl
  | 1 =>
    have e : takeF bs 1 m0 p 0 = ({ m0 with stop := (hashR bs p 0).1 }, (hashR bs p 0).2) := rfl
    rw [e, hash_frontD hp hw.stop.1 h]
    show _ = (_, p + m.stop.length, 0)
    rw [hw.stop.1]
    rfl
  | 2 =>
    have h1 := of_decide_eq_true hfit
    have h' : bs.drop p = varB m.heads.length ++ (m.heads.flatMap hdB ++ r) := by rw [← List.append_assoc]; exact h
    have hv := var_frontD hp (n := m.heads.length) (by omega) (most := 2000) (by omega) h'
    have ht := (heads_frontD (le_of_drop hp h') m.heads hw.heads (drop_next h') m.heads.length (Nat.le_refl _)).1
    have e : takeF bs 2 m0 p 0 = ({ m0 with heads := (headsS bs (varR bs p 0 2000).2.1 (varR bs p 0 2000).2.2 (varR bs p 0 2000).1.toNat).1 }, (headsS bs (varR bs p 0 2000).2.1 (varR bs p 0 2000).2.2 (varR bs p 0 2000).1.toNat).2) := rfl
    rw [e, hv]
    simp only [Int.toNat_natCast]
    rw [ht, List.take_length]
    show _ = (_, p + (varB m.heads.length ++ m.heads.flatMap hdB).length, 0)
    rw [List.length_append, Nat.add_assoc]
    rfl
  | 3 =>
    have h1 := of_decide_eq_true hfit
    have e : takeF bs 3 m0 p 0 = ({ m0 with of_ := (numR bs p 0 1).1 }, (numR bs p 0 1).2) := rfl
    have hn := num_frontD (n := m.of_.toNat) 1 hp (by rw [wid1]; omega) h
    rw [e, hn, Int.toNat_of_nonneg h1.1]
    show _ = (_, p + (digs 1 m.of_.toNat).length, 0)
    rw [digs_length]
    rfl
  | 4 =>
    have e : takeF bs 4 m0 p 0 = ({ m0 with block := (hashR bs p 0).1 }, (hashR bs p 0).2) := rfl
    rw [e, hash_frontD hp hw.block.1 h]
    show _ = (_, p + m.block.length, 0)
    rw [hw.block.1]
    rfl
  | 5 =>
    have h1 := of_decide_eq_true hfit
    have e : takeF bs 5 m0 p 0 = ({ m0 with data := (textR bs p 0 2048).1 }, (textR bs p 0 2048).2) := rfl
    rw [e, text_frontD hp (most := 2048) (by decide) (by omega) (by omega) h]
    rfl
  | 6 =>
    have h1 := of_decide_eq_true hfit
    have e : takeF bs 6 m0 p 0 = ({ m0 with item := (textR bs p 0 64).1 }, (textR bs p 0 64).2) := rfl
    rw [e, text_frontD hp (most := 64) (by decide) (by omega) (by omega) h]
    rfl
  | 7 =>
    simp only [Bool.and_eq_true, List.all_eq_true] at hfit
    have h1 := of_decide_eq_true hfit.1
    have h' : bs.drop p = varB m.ents.length ++ (m.ents.flatMap entB ++ r) := by rw [← List.append_assoc]; exact h
    have hv := var_frontD hp (n := m.ents.length) (by omega) (most := 16) (by omega) h'
    have ht := (ents_frontD (le_of_drop hp h') m.ents hfit.2 (fun x hx q hq => ((hw.ents x hx).2 q hq).1) (drop_next h') m.ents.length (Nat.le_refl _)).1
    have e : takeF bs 7 m0 p 0 = ({ m0 with ents := (entsS bs (varR bs p 0 16).2.1 (varR bs p 0 16).2.2 (varR bs p 0 16).1.toNat).1 }, (entsS bs (varR bs p 0 16).2.1 (varR bs p 0 16).2.2 (varR bs p 0 16).1.toNat).2) := rfl
    rw [e, hv]
    simp only [Int.toNat_natCast]
    rw [ht, List.take_length]
    show _ = (_, p + (varB m.ents.length ++ m.ents.flatMap entB).length, 0)
    rw [List.length_append, Nat.add_assoc]
    rfl
  | 8 =>
    have e : takeF bs 8 m0 p 0 = ({ m0 with nonce := (numR bs p 0 8).1 }, (numR bs p 0 8).2) := rfl
    have hn := num_frontD (n := m.nonce.toNat) 8 hp (by
      rw [wid8]
      have e : (256 : Nat) ^ 8 = 18446744073709551616 := by decide
      rw [e]
      have := hw.nonce
      omega) h
    rw [e, hn, Int.toNat_of_nonneg hw.nonce.1]
    show _ = (_, p + (digs 8 m.nonce.toNat).length, 0)
    rw [digs_length]
    rfl
  | 9 =>
    have h1 := of_decide_eq_true hfit
    have e : takeF bs 9 m0 p 0 = ({ m0 with code := (numR bs p 0 1).1 }, (numR bs p 0 1).2) := rfl
    have hn := num_frontD (n := m.code.toNat) 1 hp (by rw [wid1]; omega) h
    rw [e, hn, Int.toNat_of_nonneg h1.1]
    show _ = (_, p + (digs 1 m.code.toNat).length, 0)
    rw [digs_length]
    rfl
  | n + 10 => exact absurd hf (by omega)
end Go.Proofs.Ytfcmdhimlfoofaa.Hand


/- A message comes back from its bytes: the plain law. -/
namespace Go.Proofs.Ytfcmdhimlfoofaa.Hand
open Go Go.RowKit Go.Proofs.Ytfcmdhimlfoofaa.Plain Go.Proofs.YtfcmdhimlfoofaaW.PrintWords Go.Proofs.YtfcmdhimlfoofaaW.PrintLast Go.Proofs.YtfcmdhimlfoofaaW.PrintMore
set_option linter.unusedVariables false
set_option linter.unusedSimpArgs false
/-- The message when the fields before the k-th are taken. -/
def mkM (m : MT) : Nat → MT
  | 0 => { zMP with kind := m.kind }
  | k + 1 => if usesM m.kind k = true then setF (mkM m k) m k else mkM m k
theorem mk_proj {α : Type} (π : MT → α) (i : Nat) (h1 : ∀ m0 m f, f ≠ i → f < 10 → π (setF m0 m f) = π m0) (h2 : ∀ m0 m, π (setF m0 m i) = π m) (m : MT) : ∀ k, k ≤ 10 → π (mkM m k) = if i < k ∧ usesM m.kind i = true then π m else π { zMP with kind := m.kind }
  | 0, _ => by rw [if_neg (by omega)]; rfl
  | k + 1, hk => by
    have ih := mk_proj π i h1 h2 m k (by omega)
    unfold mkM
    by_cases hki : k = i
    · subst hki
      rw [if_neg (by omega)] at ih
      cases hu : usesM m.kind k with
      | true => rw [if_pos rfl, h2, if_pos ⟨by omega, rfl⟩]
      | false => rw [if_neg (by simp), ih, if_neg (by simp)]
    · have e : (i < k + 1 ∧ usesM m.kind i = true) ↔ (i < k ∧ usesM m.kind i = true) := by
        constructor
        · intro h
          exact ⟨by omega, h.2⟩
        · intro h
          exact ⟨by omega, h.2⟩
      cases hu : usesM m.kind k with
      | true =>
        rw [if_pos rfl, h1 _ _ _ hki (by omega), ih]
        simp only [e]
      | false =>
        rw [if_neg (by simp), ih]
        simp only [e]
theorem mk_all {m : MT} (h : ∀ f, f < 10 → usesM m.kind f = false → noneM m f = true) : mkM m 10 = m := by
  have P : ∀ {α : Type} (π : MT → α) (i : Nat), i < 10 → (∀ m0 m f, f ≠ i → f < 10 → π (setF m0 m f) = π m0) → (∀ m0 m, π (setF m0 m i) = π m) → (noneM m i = true → π m = π { zMP with kind := m.kind }) → π (mkM m 10) = π m := fun π i hi h1 h2 h3 => by
    rw [mk_proj π i h1 h2 m 10 (Nat.le_refl _)]
    cases hu : usesM m.kind i with
    | true => rw [if_pos ⟨hi, rfl⟩]
    | false => rw [if_neg (by simp), h3 (h i hi hu)]
  have k0 := P (fun m => m.loc) 0 (by decide) (fun m0 m f hf h10 => by rcases ten h10 with rfl | rfl | rfl | rfl | rfl | rfl | rfl | rfl | rfl | rfl <;> first | rfl | exact absurd rfl hf) (fun _ _ => rfl) (fun hn => List.length_eq_zero_iff.1 (by simpa [noneM] using hn))
  have k1 := P (fun m => m.stop) 1 (by decide) (fun m0 m f hf h10 => by rcases ten h10 with rfl | rfl | rfl | rfl | rfl | rfl | rfl | rfl | rfl | rfl <;> first | rfl | exact absurd rfl hf) (fun _ _ => rfl) (fun hn => by have hn2 := hn; simp only [noneM, beq_iff_eq] at hn2; exact hn2)
  have k2 := P (fun m => m.heads) 2 (by decide) (fun m0 m f hf h10 => by rcases ten h10 with rfl | rfl | rfl | rfl | rfl | rfl | rfl | rfl | rfl | rfl <;> first | rfl | exact absurd rfl hf) (fun _ _ => rfl) (fun hn => List.length_eq_zero_iff.1 (by simpa [noneM] using hn))
  have k3 := P (fun m => m.of_) 3 (by decide) (fun m0 m f hf h10 => by rcases ten h10 with rfl | rfl | rfl | rfl | rfl | rfl | rfl | rfl | rfl | rfl <;> first | rfl | exact absurd rfl hf) (fun _ _ => rfl) (fun hn => by have hn2 := hn; simp only [noneM, beq_iff_eq] at hn2; exact hn2)
  have k4 := P (fun m => m.block) 4 (by decide) (fun m0 m f hf h10 => by rcases ten h10 with rfl | rfl | rfl | rfl | rfl | rfl | rfl | rfl | rfl | rfl <;> first | rfl | exact absurd rfl hf) (fun _ _ => rfl) (fun hn => by have hn2 := hn; simp only [noneM, beq_iff_eq] at hn2; exact hn2)
  have k5 := P (fun m => m.data) 5 (by decide) (fun m0 m f hf h10 => by rcases ten h10 with rfl | rfl | rfl | rfl | rfl | rfl | rfl | rfl | rfl | rfl <;> first | rfl | exact absurd rfl hf) (fun _ _ => rfl) (fun hn => List.length_eq_zero_iff.1 (by simpa [noneM] using hn))
  have k6 := P (fun m => m.item) 6 (by decide) (fun m0 m f hf h10 => by rcases ten h10 with rfl | rfl | rfl | rfl | rfl | rfl | rfl | rfl | rfl | rfl <;> first | rfl | exact absurd rfl hf) (fun _ _ => rfl) (fun hn => List.length_eq_zero_iff.1 (by simpa [noneM] using hn))
  have k7 := P (fun m => m.ents) 7 (by decide) (fun m0 m f hf h10 => by rcases ten h10 with rfl | rfl | rfl | rfl | rfl | rfl | rfl | rfl | rfl | rfl <;> first | rfl | exact absurd rfl hf) (fun _ _ => rfl) (fun hn => List.length_eq_zero_iff.1 (by simpa [noneM] using hn))
  have k8 := P (fun m => m.nonce) 8 (by decide) (fun m0 m f hf h10 => by rcases ten h10 with rfl | rfl | rfl | rfl | rfl | rfl | rfl | rfl | rfl | rfl <;> first | rfl | exact absurd rfl hf) (fun _ _ => rfl) (fun hn => by have hn2 := hn; simp only [noneM, beq_iff_eq] at hn2; exact hn2)
  have k9 := P (fun m => m.code) 9 (by decide) (fun m0 m f hf h10 => by rcases ten h10 with rfl | rfl | rfl | rfl | rfl | rfl | rfl | rfl | rfl | rfl <;> first | rfl | exact absurd rfl hf) (fun _ _ => rfl) (fun hn => by have hn2 := hn; simp only [noneM, beq_iff_eq] at hn2; exact hn2)
  have kk : ∀ k, (mkM m k).kind = m.kind := fun k => by
    induction k with
    | zero => rfl
    | succ k ih =>
      unfold mkM
      split
      · have : ∀ m0 f, (setF m0 m f).kind = m0.kind := fun m0 f => by unfold setF; split <;> rfl
        rw [this]
        exact ih
      · exact ih
  have k10 := kk 10
  obtain ⟨a0, a1, a2, a3, a4, a5, a6, a7, a8, a9, a10⟩ := m
  obtain ⟨⟨b0, b1, b2, b3, b4, b5, b6, b7, b8, b9, b10⟩, e⟩ : ∃ x, x = mkM ⟨a0, a1, a2, a3, a4, a5, a6, a7, a8, a9, a10⟩ 10 := ⟨_, rfl⟩
  rw [← e] at k0 k1 k2 k3 k4 k5 k6 k7 k8 k9 k10 ⊢
  simp only at k0 k1 k2 k3 k4 k5 k6 k7 k8 k9 k10
  rw [k0, k1, k2, k3, k4, k5, k6, k7, k8, k9, k10]
theorem acc_more (m : MT) (k : Nat) : ∀ j, ∃ r, accM m (k + j) = accM m k ++ r
  | 0 => ⟨[], by simp⟩
  | j + 1 => by
    obtain ⟨r, hr⟩ := acc_more m k j
    cases hu : usesM m.kind (k + j) with
    | true => exact ⟨r ++ putB m (k + j), by rw [← Nat.add_assoc, acc_put hu, hr, List.append_assoc]⟩
    | false => exact ⟨r, by rw [← Nat.add_assoc, acc_skip hu, hr]⟩
/-- What bytesME = 0 says. -/
theorem me_zero {m : MT} (h : bytesME m = 0) : 1 ≤ m.kind ∧ m.kind ≤ 9 ∧ (∀ f, f < 10 → usesM m.kind f = false → noneM m f = true) ∧ (∀ f, f < 10 → usesM m.kind f = true → fitM m f = true) ∧ bytesMV m = accM m 10 := by
  have hv : bytesMV m = accM m 10 := by unfold bytesMV; rw [if_pos h]; rfl
  unfold bytesME at h
  by_cases hk : m.kind < 1 ∨ 9 < m.kind
  · rw [if_pos hk] at h
    exact absurd h (by decide)
  rw [if_neg hk] at h
  by_cases hb : (List.range 10).any (fun f => !usesM m.kind f && !noneM m f) = true
  · rw [if_pos hb] at h
    exact absurd h (by decide)
  rw [if_neg hb] at h
  by_cases hc : (fieldsM m.kind).any (fun f => !fitM m f) = true
  · rw [if_pos hc] at h
    exact absurd h (by decide)
  refine ⟨by omega, by omega, fun f hf hu => ?_, fun f hf hu => ?_, hv⟩
  · cases hn : noneM m f with
    | true => rfl
    | false => exact absurd (bad_any hf hu hn) hb
  · cases hn : fitM m f with
    | true => rfl
    | false => exact absurd (big_any hf hu hn) hc
theorem fold_front {m : MT} (hw : MWf m) (h : bytesME m = 0) {bs rest : List Int} (hb : bs = accM m 10 ++ rest) : ∀ k, k ≤ 10 → foldP bs { zMP with kind := m.kind } 1 0 k = (mkM m k, (accM m k).length, 0)
  | 0, _ => by
    show _ = (_, (digs 1 m.kind.toNat ++ _).length, 0)
    simp [digs_length, foldP, mkM]
  | k + 1, hk => by
    have ih := fold_front hw h hb k (by omega)
    obtain ⟨h1, h9, hn, hf, _⟩ := me_zero h
    unfold foldP mkM
    rw [ih]
    simp only
    cases hu : usesM m.kind k with
    | true =>
      rw [if_pos (by simp), if_pos (by simp)]
      obtain ⟨r, hr⟩ := acc_more m (k + 1) (9 - k)
      rw [show k + 1 + (9 - k) = 10 by omega, acc_put hu] at hr
      have hd : bs.drop (accM m k).length = putB m k ++ (r ++ rest) := by rw [hb, hr, List.append_assoc, List.append_assoc, List.drop_left]
      have hle : (accM m k).length ≤ bs.length := by rw [hb, hr]; simp only [List.length_append]; omega
      rw [takeF_front hle hw k (by omega) (hf k (by omega) hu) _ hd, acc_put hu, List.length_append]
    | false =>
      rw [if_neg (by simp), if_neg (by simp), acc_skip hu]
theorem kind_front {m : MT} (h1 : 1 ≤ m.kind) (h9 : m.kind ≤ 9) {bs rest : List Int} (hb : bs = accM m 10 ++ rest) : kindR bs = (m.kind, 1, 0) := by
  obtain ⟨r, hr⟩ := acc_more m 0 10
  have e0 : accM m 0 = digs 1 m.kind.toNat := by unfold accM; simp
  rw [Nat.zero_add, e0] at hr
  have hd : bs.drop 0 = digs (wid 1) m.kind.toNat ++ (r ++ rest) := by rw [List.drop_zero, hb, hr, List.append_assoc, wid1]
  have hn := num_frontD (n := m.kind.toNat) 1 (Nat.zero_le _) (by rw [wid1]; omega) hd
  unfold kindR
  rw [hn, wid1, Int.toNat_of_nonneg (by omega)]
/-- Of its bytes a message comes back; not of more. -/
theorem parse_front {m : MT} (hw : MWf m) (h : bytesME m = 0) (rest : List Int) (hl : (accM m 10 ++ rest).length ≤ 200000) : parseM (accM m 10 ++ rest) = if rest = [] then (m, 0) else (zMP, 3) := by
  obtain ⟨h1, h9, hn, hf, _⟩ := me_zero h
  have hk := kind_front h1 h9 (bs := accM m 10 ++ rest) rfl
  have hfo := fold_front hw h (bs := accM m 10 ++ rest) rfl 10 (Nat.le_refl _)
  have hbo : bodyP (accM m 10 ++ rest) = (m, (accM m 10).length, 0) := by
    unfold bodyP
    rw [hk]
    simp only
    rw [hfo, mk_all hn]
  unfold parseM
  rw [if_neg (by omega), hk]
  simp only
  rw [if_neg (by simp), if_neg (by omega), hbo]
  simp only
  by_cases hr : rest = []
  · subst hr
    have e : endR (accM m 10 ++ []) (accM m 10).length 0 = 0 := by
      unfold endR
      rw [if_neg (by simp)]
    rw [e, if_neg (by simp), if_pos rfl]
  · have : 0 < rest.length := by
      cases rest with
      | nil => exact absurd rfl hr
      | cons a t => simp
    have e : endR (accM m 10 ++ rest) (accM m 10).length 0 = 3 := by
      unfold endR
      rw [if_pos ⟨rfl, by rw [List.length_append]; omega⟩]
    rw [e, if_pos (by decide), if_neg hr]
end Go.Proofs.Ytfcmdhimlfoofaa.Hand


/- Any message has the bytes that the document says, from which it comes back, or the error: walked (MsgBytes). -/
namespace Go.Proofs.Ytfcmdhimlfoofaa.Hand
open Go Go.RowKit Go.Proofs.Ytfcmdhimlfoofaa.Plain Go.Proofs.Ytfcmdhimlfoofaa.PAll Go.Proofs.YtfcmdhimlfoofaaW.PrintWords Go.Proofs.YtfcmdhimlfoofaaW.PrintLast Go.Proofs.YtfcmdhimlfoofaaW.PrintMore
set_option linter.unusedVariables false
set_option linter.unusedSimpArgs false
set_option maxRecDepth 100000
attribute [local go_sem ↓] Go.wp_at_zero Go.wp_at_succ
theorem all_append {l1 l2 : List Int} (h1 : ∀ x ∈ l1, 0 ≤ x ∧ x < 256) (h2 : ∀ x ∈ l2, 0 ≤ x ∧ x < 256) : ∀ x ∈ l1 ++ l2, 0 ≤ x ∧ x < 256 := fun x hx => by
  rcases List.mem_append.1 hx with hx | hx
  · exact h1 x hx
  · exact h2 x hx
theorem hashesB_bytes {l : List (List Int)} (h : ∀ p ∈ l, ∀ x ∈ p, 0 ≤ x ∧ x < 256) : ∀ x ∈ hashesB l, 0 ≤ x ∧ x < 256 :=
  all_append (varB_bytes _) fun x hx => by
    obtain ⟨p, hp, hx⟩ := List.mem_flatten.1 hx
    exact h p hp x hx
theorem putB_bytes {m : MT} (hw : MWf m) (f : Nat) : ∀ x ∈ putB m f, 0 ≤ x ∧ x < 256 := by
  unfold putB
  match f with
  | 0 => exact hashesB_bytes fun p hp => (hw.loc p hp).2
  | 1 => exact hw.stop.2
  | 2 =>
    refine all_append (varB_bytes _) fun x hx => ?_
    obtain ⟨h, hh, hx⟩ := List.mem_flatMap.1 hx
    have hk := hw.heads h hh
    exact all_append (all_append (all_append (all_append (digs_bytes _ _) (all_append hk.pb hk.rb)) (digs_bytes _ _)) (digs_bytes _ _)) (digs_bytes _ _) x hx
  | 3 => exact digs_bytes _ _
  | 4 => exact hw.block.2
  | 5 => exact all_append (varB_bytes _) hw.data
  | 6 => exact all_append (varB_bytes _) hw.item
  | 7 =>
    refine all_append (varB_bytes _) fun x hx => ?_
    obtain ⟨e, he, hx⟩ := List.mem_flatMap.1 hx
    have hk := hw.ents e he
    exact all_append (all_append (all_append (all_append (varB_bytes _) hk.1) (varB_bytes _)) (varB_bytes _)) (hashesB_bytes fun p hp => (hk.2 p hp).2) x hx
  | 8 => exact digs_bytes _ _
  | n + 9 => exact digs_bytes _ _
theorem bytesMV_bytes {m : MT} (hw : MWf m) : ∀ x ∈ bytesMV m, 0 ≤ x ∧ x < 256 := by
  unfold bytesMV
  split
  · refine all_append (digs_bytes _ _) fun x hx => ?_
    obtain ⟨f, hf, hx⟩ := List.mem_flatMap.1 hx
    exact putB_bytes hw f x hx
  · simp
theorem bytesMV_len {m : MT} (hw : MWf m) : (bytesMV m).length ≤ 190000 := by
  by_cases h : bytesME m = 0
  · obtain ⟨_, _, _, hf, hv⟩ := me_zero h
    rw [hv]
    have h1 := acc_len hw 10 hf
    have h2 := sum_max 10 (Nat.le_refl _)
    omega
  · unfold bytesMV
    rw [if_neg h]
    simp
theorem parse_bytes {m : MT} (hw : MWf m) (h : bytesME m = 0) : parseM (bytesMV m) = (m, 0) := by
  have hl := bytesMV_len hw
  rw [(me_zero h).2.2.2.2] at hl ⊢
  have := parse_front hw h [] (by simpa using Nat.le_trans hl (by decide))
  rwa [List.append_nil, if_pos rfl] at this
theorem minfo (a : MA) {m : MT} (hs : m.stop.length = 32) (hb : m.block.length = 32) : (Try.prog.info? 33).map (·.size) = some (mcells a m).toArray.size := by
  rw [(zero_of_info infoMM).2]
  simp [mcells_len a m hs hb]
theorem smM_bounds {m : MT} (h : smM m = true) : m.loc.length ≤ 80 ∧ m.heads.length ≤ 40 ∧ m.item.length ≤ 200 ∧ m.data.length ≤ 3000 ∧ m.ents.length ≤ 20 ∧ ∀ e ∈ m.ents, e.tx.length ≤ 900 ∧ e.path.length ≤ 20 := by
  simp only [smM, Bool.and_eq_true, List.all_eq_true] at h
  have h1 := of_decide_eq_true h.1
  exact ⟨h1.1, h1.2.1, h1.2.2.1, h1.2.2.2.1, h1.2.2.2.2, fun e he => of_decide_eq_true (h.2 e he)⟩
set_option maxHeartbeats 8000000 in
theorem msgbytes_calls (a : MA) (m : MT) (w : World) (hm : MC w a m) (hwf : MWf m) : Calls Try.prog 4 #[mV a m] w fun e w' => e = .returned (.bool true) ∧ Below w.heap.size w w' := by
  have HWF := Lib.hid hwf
  have HM := Lib.hid hm
  have hs32 := hwf.stop.1
  have hb32 := hwf.block.1
  have hi := minfo a hs32 hb32
  have HSM := Lib.hid (fun (W : World) (hW : Below w.heap.size w W) => small_calls a m W (hm.below hW) hwf)
  have HBC := Lib.hid (fun (W : World) (hW : Below w.heap.size w W) => mbytes_calls a m W (hm.below hW) hwf)
  have HRF := Lib.hid (fun (hsm : smM m = true) (W : World) (hW : Below w.heap.size w W) => lrefm_calls a m W (hm.below hW) hwf (by have := smM_bounds hsm; omega) (by have := smM_bounds hsm; omega) (by have := smM_bounds hsm; omega) (fun e he => by have := (smM_bounds hsm).2.2.2.2.2 e he; omega))
  have c0 : (mcells a m).toArray[0]? = some (.int .i64 m.kind) := rfl
  have hmv : ∀ a', mV a' m = .agg (mcells a' m).toArray := fun _ => rfl
  obtain ⟨C, hC⟩ : ∃ C, (mcells a m).toArray = C := ⟨_, rfl⟩
  have hV1 : mV a m = .agg C := by rw [mV, hC]
  rw [hV1] at HSM HBC HRF ⊢
  rw [hC] at hi c0
  obtain ⟨W1, hW1⟩ : ∃ W1, w.alloc (.cells C 33) = W1 := ⟨_, rfl⟩
  have hnew : W1.heap[w.heap.size]? = some (.cells C 33 (0, 0)) := by rw [← hW1]; simpa using heap_alloc_new w _
  have HB1 : Hid (Below w.heap.size w W1) := Lib.hid (by rw [← hW1]; exact below_alloc (Below.refl _ _) _)
  have HNEW := Lib.hid (show ∀ u, Below W1.heap.size W1 u → u.heap[w.heap.size]? = some (.cells C 33 (0, 0)) from fun u hu => (hu.block _ (blk_lt hnew)).trans hnew)
  have HN0 := Lib.hid (show (w.alloc (.cells C 33)).heap[w.heap.size]? = some (.cells C 33 (0, 0)) by simpa using heap_alloc_new w _)
  have HC0 := Lib.hid c0
  have HW1 := Lib.hid hW1
  have HI := Lib.hid hi
  have HU := Lib.hid Try.underlying33
  have HBW := Lib.hid (show ∀ u, Below W1.heap.size W1 u → Below w.heap.size w u from fun u hu => HB1.out.trans (Below.mono hu HB1.out.size))
  clear hm hwf hs32 hb32 hi c0 hC hV1 hW1 hnew
  obtain ⟨sm, hsm⟩ : ∃ b, smM m = b := ⟨_, rfl⟩
  have HSB := Lib.hid hsm
  rw [hsm] at HSM
  clear hsm
  go_enter Try.func4, Try.ntmps4
  go_wp2_with ((with_reducible show wpList _ _ _ (Oper.mk _ (Op.load 33 (.tmp 1)) _ _ _ _ :: _) _ _); (go_loud (refine wpList_load_row rfl 33 (.tmp 1) rfl w.heap.size rfl 33 C (0, 0) _ HN0.out HU.out rfl HI.out ?_)))
  rw [HW1.out]
  refine (HSM.out _ HB1.out).mono ?_
  rintro e w2 ⟨rfl, hb2⟩
  have HB2 := Lib.hid hb2
  clear hb2
  cases sm with
  | false =>
    go_wp2_with fail
    refine (awake16_calls _).mono ?_
    rintro e w3 ⟨rfl, hb3⟩
    have HBF := Lib.hid (HBW.out _ (HB2.out.trans (Below.mono hb3 HB2.out.size)))
    clear hb3
    go_wp2_with fail
    go_ret
    exact ⟨rfl, HBF.out⟩
  | true =>
    have HK2 := Lib.hid (HNEW.out _ HB2.out)
    go_wp2_with ((with_reducible show wpList _ _ _ (Oper.mk _ (Op.load 33 (.tmp 1)) _ _ _ _ :: _) _ _); (go_loud (refine wpList_load_row rfl 33 (.tmp 1) rfl w.heap.size rfl 33 C (0, 0) _ HK2.out HU.out rfl HI.out ?_)))
    refine (HBC.out _ (HBW.out _ HB2.out)).mono ?_
    rintro e w3 ⟨v, rfl, hv3, hb3⟩
    obtain ⟨A3, c3, rfl, hc3, hC3⟩ := Kd.R_reads hv3
    have HB3 := Lib.hid (HB2.out.trans (Below.mono hb3 HB2.out.size))
    have HRD := Lib.hid (And.intro hC3 hc3)
    have HK3 := Lib.hid (HNEW.out _ HB3.out)
    clear hv3 hb3 hc3 hC3
    have HCV := Lib.hid (show ∀ u, Below w3.heap.size w3 u → (convert 23 9 (.slice A3 (bytesMV m).length c3)).run Try.prog u = .ok (.string (strOfNums (bytesMV m))) u from fun u hu =>
      Kd.C_string (P := Try.prog) (src := 23) (dst := 9) (c := c3) Try.underlying23 Try.underlying5 Try.underlying9 (Kd.C_below HRD.out.1 hu))
    have HMB := Lib.hid (And.intro (bytesMV_bytes HWF.out) (bytesMV_len HWF.out))
    have HPB := Lib.hid (fun h => parse_bytes HWF.out h)
    have HRB := Lib.hid (fun (ra : RA) (W : World) (h : RC W ra m) => rmbytes_calls ra m W h HWF.out)
    have HBC2 := Lib.hid (fun (a' : MA) (W : World) (h : MC W a' m) => mbytes_calls a' m W h HWF.out)
    obtain ⟨E, hE⟩ : ∃ E, bytesME m = E := ⟨_, rfl⟩
    obtain ⟨V, hV⟩ : ∃ V, bytesMV m = V := ⟨_, rfl⟩
    rw [hV] at HRD HCV HMB HPB HRB HBC2 ⊢
    rw [hE] at HPB HRB HBC2 ⊢
    obtain ⟨nV, hnV⟩ : ∃ n, V.length = n := ⟨_, rfl⟩
    obtain ⟨T, hT⟩ : ∃ T, strOfNums V = T := ⟨_, rfl⟩
    rw [hnV, hT] at HCV
    rw [hnV] at HRD HMB ⊢
    rw [hT] at HRB
    have HNV := Lib.hid hnV
    have HTT := Lib.hid hT
    clear hV hE hnV hT
    go_wp2_with ((with_reducible show wpList _ _ _ (Oper.mk _ (Op.load 33 (.tmp 1)) _ _ _ _ :: _) _ _); (go_loud (refine wpList_load_row rfl 33 (.tmp 1) rfl w.heap.size rfl 33 C (0, 0) _ HK3.out HU.out rfl HI.out ?_)))
    refine (HRF.out HSB.out _ (HBW.out _ HB3.out)).mono ?_
    rintro e w4 ⟨ra, rfl, hrc, hb4⟩
    have HB4 := Lib.hid (HB3.out.trans (Below.mono hb4 HB3.out.size))
    have H34 := Lib.hid hb4
    have HRC := Lib.hid (HRB.out ra w4 hrc)
    obtain ⟨RV, hRV⟩ : ∃ R, rmV ra m = R := ⟨_, rfl⟩
    rw [hRV] at HRC ⊢
    clear hrc hb4 hRV HRB
    go_wp2_with fail
    refine HRC.out.mono ?_
    rintro e w5 ⟨rfl, hb5⟩
    have HB5 := Lib.hid (HB4.out.trans (Below.mono hb5 HB4.out.size))
    have H35 := Lib.hid (H34.out.trans (Below.mono hb5 H34.out.size))
    have cv5 := HCV.out w5 H35.out
    clear hb5 HRC
    by_cases hE : E = 0
    · subst hE
      have HPS := Lib.hid (show ∀ W, Below w3.heap.size w3 W → Calls Try.prog 15 #[.slice A3 nV c3] W fun e w' => ∃ a, e = .returned (.tuple #[mV a m, .int .i64 0]) ∧ MC w' a m ∧ Below W.heap.size W w' from fun W hW => by
        have h1 := mparse_calls A3 nV c3 V W HNV.out.symm (Kd.C_below HRD.out.1 hW) HRD.out.2 HMB.out.1 (by have := HMB.out.2; omega)
        rw [HPB.out rfl] at h1
        exact h1)
      have hz := (zero_of_info infoMM).1
      obtain ⟨Z, hZ⟩ : ∃ Z, (mcells nilMA zMP).toArray = Z := ⟨_, rfl⟩
      rw [hZ] at hz
      have HZS := Lib.hid (show Z.size = 73 by rw [← hZ]; rfl)
      clear hZ
      go_wp2_with fail
      refine (HPS.out _ H35.out).mono ?_
      rintro e w6 ⟨a6, rfl, hm6, hb6⟩
      have HB6 := Lib.hid (HB5.out.trans (Below.mono hb6 HB5.out.size))
      have hcl := mcells_len a6 m HWF.out.stop.1 HWF.out.block.1
      have hone := all_oneCell_toArray (mcells_one a6 m)
      have hi6 := minfo a6 HWF.out.stop.1 HWF.out.block.1
      have hc6 : (mcells a6 m).toArray[0]? = some (.int .i64 m.kind) := rfl
      have HBC6 := Lib.hid (fun W h => HBC2.out a6 W h)
      obtain ⟨C6, hC6⟩ : ∃ C, (mcells a6 m).toArray = C := ⟨_, rfl⟩
      have hV6 : mV a6 m = .agg C6 := by rw [mV, hC6]
      rw [hV6] at HBC6
      rw [hV6]
      rw [hC6] at hi6 hone hc6
      have HZ6 := Lib.hid (And.intro hi6 (And.intro (show Z.size = C6.size by rw [HZS.out, ← hC6]; simpa using hcl.symm) hone))
      have HMC6 := Lib.hid hm6
      clear hm6 hb6 hcl hi6 hone hC6 hV6 cv5
      have HN6 := Lib.hid (show (w6.alloc (.cells C6 33)).heap[w6.heap.size]? = some (.cells C6 33 (0, 0)) by simpa using heap_alloc_new w6 _)
      have HC6 := Lib.hid hc6
      clear hc6
      go_wp2_with (first
        | ((with_reducible show wpList _ _ _ (Oper.mk _ (Op.store _ (.tmp 7) _) _ _ _ _ :: _) _ _); (go_loud (refine wpl_store_new rfl 33 (.tmp 7) (.tmp 41) rfl Z C6 rfl rfl HZ6.out.1 HZ6.out.2.1 HZ6.out.2.2 ?_)))
        | ((with_reducible show wpList _ _ _ (Oper.mk _ (Op.load 33 (.tmp 7)) _ _ _ _ :: _) _ _); (go_loud (refine wpList_load_row rfl 33 (.tmp 7) rfl w6.heap.size rfl 33 C6 (0, 0) _ HN6.out HU.out rfl HZ6.out.1 ?_))))
      have HB7 := Lib.hid (HB6.out.alloc HB6.out.size (.cells C6 33))
      refine (HBC6.out _ (HMC6.out.below (below_alloc (Below.refl _ _) _))).mono ?_
      rintro e w8 ⟨v8, rfl, hv8, hb8⟩
      have HB8 := Lib.hid (HB7.out.trans (Below.mono hb8 HB7.out.size))
      have hcv8 := own_string (P := Try.prog) Try.underlying23 Try.underlying5 Try.underlying9 (Kd.own_of_R hv8)
      rw [HTT.out] at hcv8
      have z1 := (blk_cell ((hb8.block _ (blk_lt HN6.out)).trans HN6.out) 0).trans HC6.out
      have z2 := (blk_cell (HNEW.out w8 HB8.out) 0).trans HC0.out
      obtain ⟨kd, hkd⟩ : ∃ k, m.kind = k := ⟨_, rfl⟩
      rw [hkd] at z1 z2
      clear hv8 hb8 hkd
      go_wp2_with fail
      refine (awake16_calls _).mono ?_
      rintro e w9 ⟨rfl, hb9⟩
      have HBF := Lib.hid (HBW.out _ (HB8.out.trans (Below.mono hb9 HB8.out.size)))
      clear hb9
      go_wp2_with fail
      go_ret
      exact ⟨rfl, HBF.out⟩
    · have t1 : (E != 0) = true := by simpa using hE
      have t2 : (E == 0) = false := by simpa using hE
      have t3 : (E = 0) = False := eq_false hE
      clear hE
      go_wp2_with fail
      refine (awake16_calls _).mono ?_
      rintro e w6 ⟨rfl, hb6⟩
      have HBF := Lib.hid (HBW.out _ (HB5.out.trans (Below.mono hb6 HB5.out.size)))
      clear hb6
      go_wp2_with fail
      go_ret
      exact ⟨rfl, HBF.out⟩
end Go.Proofs.Ytfcmdhimlfoofaa.Hand


/- A message's bytes: what is written is what the document writes, and what is read back is the message. -/
namespace Go.Proofs.Ytfcmdhimlfoofaa.msgBytes
open Go.ChangeShapes Go.WideShapes Go.ChangeAt Go.RowKit
open Go.ChangeMaps (open_string shut_string)
open Go.Proofs.Ytfcmdhimlfoofaa.Opens Go.Proofs.YtfcmdhimlfoofaaW.PrintWords
set_option linter.unusedVariables false
theorem own : ownKnob Try.prog.godebug = none := by kernel_rfl
theorem laidOut : laidOutB Try.prog = true := by kernel_rfl
set_option maxRecDepth 100000 in
theorem lifted (os : Os) (started : os.Started) (H : Type) (enc : TypeId × Value → H) :
    ReturnsInHanded {} Try.checked os 4 .any (Rows.msgBytesSpec.pre6 enc Try.prog Try.f4 Rows.msgBytesRow.domain false) (Rows.msgBytesSpec.post enc Try.prog Try.f4 false true false false) := by
  refine returnsInHanded_of_change_sized (C := Try.checked) own started (by kernel_rfl) Try.func4
    (ChangeSpec.witness6 (enc := enc) (C := Try.checked) false ⟨#[], #[.agg #[.int .i64 0, .slice none 0 0, .int .u8 0, .int .u8 0, .int .u8 0, .int .u8 0, .int .u8 0, .int .u8 0, .int .u8 0, .int .u8 0, .int .u8 0, .int .u8 0, .int .u8 0, .int .u8 0, .int .u8 0, .int .u8 0, .int .u8 0, .int .u8 0, .int .u8 0, .int .u8 0, .int .u8 0, .int .u8 0, .int .u8 0, .int .u8 0, .int .u8 0, .int .u8 0, .int .u8 0, .int .u8 0, .int .u8 0, .int .u8 0, .int .u8 0, .int .u8 0, .int .u8 0, .int .u8 0, .slice none 0 0, .int .u8 0, .int .u8 0, .int .u8 0, .int .u8 0, .int .u8 0, .int .u8 0, .int .u8 0, .int .u8 0, .int .u8 0, .int .u8 0, .int .u8 0, .int .u8 0, .int .u8 0, .int .u8 0, .int .u8 0, .int .u8 0, .int .u8 0, .int .u8 0, .int .u8 0, .int .u8 0, .int .u8 0, .int .u8 0, .int .u8 0, .int .u8 0, .int .u8 0, .int .u8 0, .int .u8 0, .int .u8 0, .int .u8 0, .int .u8 0, .int .u8 0, .int .u8 0, .slice none 0 0, .slice none 0 0, .slice none 0 0, .int .u64 0, .int .i64 0, .int .i64 0]], []⟩ 8 (by kernel_rfl) (by kernel_rfl) (by kernel_rfl) (by kernel_rfl)) ?_
  intro W base args ds gs before hval0 hW hcnd hsz0 _
  have hsz : (DataW.weightsEach Try.prog (Try.f4.params.toList ++ Rows.msgBytesSpec.plain.varTypes Try.prog) (ds ++ gs)).all (· ≤ reachBytes) = true := hsz0
  have hval : ∀ (j : Nat) t v, Try.f4.params[j]? = some t → args[j]? = some v → Value.okWide Try.prog W .any base t v := hval0
  have hW' := hW
  obtain ⟨p, q, hA0, hV, rfl, hfz, hnd⟩ := hW
  have hA : DataW.TrodAll enc Try.prog W 0 (fun _ => true) true Try.f4.params.toList args.toList ds p := hA0
  rw [Try.params4] at hA hval hsz
  obtain ⟨v0, vs0, d0, ds0, p0, q0, hargs, rfl, rfl, h0, r0⟩ := trodAll_cons hA
  obtain ⟨rfl, rfl, rfl⟩ := trodAll_nil r0
  obtain rfl : args = #[v0] := by cases args; simp_all
  obtain ⟨rfl, rfl⟩ := trodVars_none hV
  obtain ⟨cs_0, rfl, sz_0⟩ := okWide_structs Try.underlying33 (hval 0 33 v0 rfl rfl)
  have k0 := h0
  have lt0 : ∀ x ∈ p0, x.block < W.heap.size := by obtain ⟨m, hm⟩ := k0; exact DataW.trod_lt m _ _ _ hm
  obtain ⟨x_0, K_0, ok_0⟩ := Opn.agg (Opn.struct Try.underlying33 (by kernel_rfl) (OpnF.cons rfl (Opn.int Try.underlying3 (by kernel_rfl)) (OpnF.cons rfl (Opn.slice Try.underlying26 (by kernel_rfl) (Opn.array (by decide) Try.underlying28 (by kernel_rfl) (Opn.int Try.underlying5 (by kernel_rfl)))) (OpnF.cons rfl (Opn.array (by decide) Try.underlying28 (by kernel_rfl) (Opn.int Try.underlying5 (by kernel_rfl))) (OpnF.cons rfl (Opn.slice Try.underlying29 (by kernel_rfl) (Opn.struct Try.underlying54 (by kernel_rfl) (OpnF.cons rfl (Opn.int Try.underlying52 (by kernel_rfl)) (OpnF.cons rfl (Opn.array (by decide) Try.underlying28 (by kernel_rfl) (Opn.int Try.underlying5 (by kernel_rfl))) (OpnF.cons rfl (Opn.array (by decide) Try.underlying28 (by kernel_rfl) (Opn.int Try.underlying5 (by kernel_rfl))) (OpnF.cons rfl (Opn.int Try.underlying52 (by kernel_rfl)) (OpnF.cons rfl (Opn.int Try.underlying52 (by kernel_rfl)) (OpnF.one rfl (Opn.int Try.underlying52 (by kernel_rfl)))))))))) (OpnF.cons rfl (Opn.array (by decide) Try.underlying28 (by kernel_rfl) (Opn.int Try.underlying5 (by kernel_rfl))) (OpnF.cons rfl (Opn.slice Try.underlying23 (by kernel_rfl) (Opn.int Try.underlying5 (by kernel_rfl))) (OpnF.cons rfl (Opn.slice Try.underlying23 (by kernel_rfl) (Opn.int Try.underlying5 (by kernel_rfl))) (OpnF.cons rfl (Opn.slice Try.underlying30 (by kernel_rfl) (Opn.struct Try.underlying67 (by kernel_rfl) (OpnF.cons rfl (Opn.slice Try.underlying23 (by kernel_rfl) (Opn.int Try.underlying5 (by kernel_rfl))) (OpnF.one rfl (Opn.struct Try.underlying65 (by kernel_rfl) (OpnF.cons rfl (Opn.int Try.underlying3 (by kernel_rfl)) (OpnF.cons rfl (Opn.int Try.underlying3 (by kernel_rfl)) (OpnF.one rfl (Opn.slice Try.underlying26 (by kernel_rfl) (Opn.array (by decide) Try.underlying28 (by kernel_rfl) (Opn.int Try.underlying5 (by kernel_rfl)))))))))))) (OpnF.cons rfl (Opn.int Try.underlying31 (by kernel_rfl)) (OpnF.cons rfl (Opn.int Try.underlying3 (by kernel_rfl)) (OpnF.one rfl (Opn.int Try.underlying3 (by kernel_rfl)))))))))))))) h0
  clear hA0 hval0 hsz0 hsz
  obtain ⟨a_0, m_0, e_0, hm_0, hw_0⟩ := Hand.msg_open K_0 ok_0
  have HCL := Hand.msgbytes_calls a_0 m_0 W hm_0 hw_0
  rw [← e_0] at HCL
  refine (HCL).mono fun e W' ⟨he, bel⟩ => ?_
  subst he
  exact ⟨_, rfl, _, _, _, [], _, [], hW', trodAll_mk1 (shut_bool Try.underlying4 _), (trodAll_cons_mk (Below.trod laidOut (by kernel_rfl) (of_decide_eq_true (by kernel_rfl)) k0 bel lt0) trodAll_mk0), rfl, bel.frame _, fun h => by cases h⟩
theorem over : Rows.msgBytesRow.holds Try.pinned (OpenSpec.ofChange Rows.msgBytesSpec) :=
  OpenClaim.holds_of_wide 4 Try.f4 rfl rfl rfl rfl rfl rfl rfl ⟨rfl, rfl, rfl, rfl, rfl⟩ rfl rfl rfl rfl rfl (by kernel_rfl) Try.func4 (by kernel_rfl)
    (of_decide_eq_true (by kernel_rfl)) (by unfold Func.isWrapper; first | (rw [if_pos (by decide +kernel)]; kernel_rfl) | (rw [if_neg (by decide +kernel)]; exact ⟨rfl, rfl⟩))
    (fun os started H enc _ => lifted os started H enc)
theorem proved : Rows.MsgBytesSaid := over
#print axioms proved
end Go.Proofs.Ytfcmdhimlfoofaa.msgBytes
namespace Go.Proofs.Ytfcmdhimlfoofaa
/-- The row, under a short name, for the claim. -/
theorem msgBytes_holds : Rows.MsgBytesSaid := msgBytes.proved
end Go.Proofs.Ytfcmdhimlfoofaa

