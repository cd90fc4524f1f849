/- LinkOnce: walked. -/
import Derived.Test.YtklillecmjooeaaProg
import Derived.Below
import Derived.Deep.Draws
import Derived.Deep.AppendLies
import Derived.Maps.AppendAt
import Derived.OwnWalk
import Derived.Laws.BytesArg
import Derived.Laws.MakeOwn
import Derived.Laws.OwnMore
import Derived.Deep.OwnRows
import Derived.Tactics
import Derived.Lib.ConvBytes
import Derived.Laws.Slices
import Derived.WalkKit
import Derived.KernelRfl
import Derived.RowKit3
import Derived.Deep.LoopGhost
import Derived.Deep.QuietTactic
import Derived.BigQuiet
import Derived.WideLaws
import Derived.Deep.DeepCutAuto
import Derived.Deep.CutBlock
import Derived.Deep.RegionHeld3
import Derived.Laws.Rows
import Derived.Lib.AppendStr
import Derived.ArgAppend
import Derived.Laws.IdiomCopy
import Derived.OrdersHeld
import Derived.Laws.BitsLemmas
import Derived.RowKit
import Derived.StillTailTactics
import Derived.Test.YtklillecmjooeaaWWords
import Derived.Test.YtklillecmjooeaaWLast
import Derived.Test.YtklillecmjooeaaWMore
import Derived.Lib.Hide
import Derived.LaidEql
import Derived.Outline
import Derived.Deep.WholeRow
import Derived.Test.YtklillecmjooeaaDouble
import Derived.Test.YtklillecmjooeaaDrop
import Derived.Test.YtklillecmjooeaaAwake
import Derived.Test.YtklillecmjooeaaOncePlain
namespace Go.Proofs.Ytklillecmjooeaa.Hand
open Go Go.RowKit Go.Proofs.Ytklillecmjooeaa.Plain Go.Proofs.Ytklillecmjooeaa.PAll Go.Proofs.YtklillecmjooeaaW.PrintWords Go.Proofs.YtklillecmjooeaaW.PrintLast Go.Proofs.YtklillecmjooeaaW.PrintMore
attribute [local go_sem] max2_int min2_int max_two min_two
set_option linter.unusedVariables false
set_option linter.unusedSimpArgs false
theorem tabI : (Try.prog.info? 26).map (fun i => (i.zero, i.size)) = some (some (.agg (Array.replicate 256 (.int .i64 0))), 256) := by kernel_rfl
theorem tab_nil : (tab []).toArray = Array.replicate 256 (.int .i64 0) := by
  apply Array.ext_getElem?
  intro i
  simp only [List.getElem?_toArray, Array.getElem?_replicate]
  by_cases h : i < 256
  · rw [tab_at [] h, if_pos h]; rfl
  · rw [if_neg h, List.getElem?_eq_none (by rw [tab_len]; omega)]
/-- A link of messages, and a table of the signs of others. -/
def IsP (w : World) (B g gt : Nat) (ms tb : List S49) : Prop := IsL w B g ms ∧ w.heap[gt]? = some (.cells (tab tb).toArray 26 (0, 0))
theorem IsP.below {w w' : World} {B g gt : Nat} {ms tb : List S49} (h : IsP w B g gt ms tb) (hb : Below w.heap.size w w') : IsP w' B g gt ms tb := ⟨h.1.below hb, (hb.block gt (blk_lt h.2)).trans h.2⟩
theorem IsP.alloc {w : World} {B g gt : Nat} {ms tb : List S49} (h : IsP w B g gt ms tb) (o : Obj) : IsP (w.alloc o) B g gt ms tb := h.below (below_alloc (Below.refl _ _) o)
theorem IsP.cell {w : World} {B g gt : Nat} {ms tb : List S49} (h : IsP w B g gt ms tb) {x : Nat} (hx : x < 256) : w.cell? ⟨gt, x, none⟩ = some (.int .i64 (cnt tb x)) ∧ w.frozen? ⟨gt, x, none⟩ = false := by
  refine ⟨(blk_cell h.2 x).trans ?_, blk_frozen h.2 _⟩
  rw [List.getElem?_toArray]
  exact tab_at tb hx
theorem IsP.keep {w w' : World} {B g gt : Nat} {ms ms' tb : List S49} (h : IsP w B g gt ms tb) (hl : IsL w' B g ms') (hk : CKeep w w' g) : IsP w' B g gt ms' tb := by
  obtain ⟨h1, h2⟩ := h.1.apart h.2 (by decide) (by decide)
  exact ⟨hl, hk.blk h1 h2 h.2⟩
theorem IsP.set {w : World} {B g gt : Nat} {ms tb tb' : List S49} (h : IsP w B g gt ms tb) {y : Nat} {v : Int} (hy : y < 256) (hv : cnt tb' y = v) (hne : ∀ x, x ≠ y → cnt tb' x = cnt tb x) : IsP (w.setCell ⟨gt, y, none⟩ (.int .i64 v)) B g gt ms tb' := by
  refine ⟨h.1.set h.2 (by decide) (by decide) y _, ?_⟩
  rw [← tab_set hy hv hne]
  exact blk_set h.2 y _
theorem load_tab {w : World} {B g gt : Nat} {ms tb : List S49} (h : IsP w B g gt ms tb) : (Instr.loadAt 26 (.pointer (some ⟨gt, 0, none⟩))).run Try.prog w = .ok (.agg (tab tb).toArray) w := by
  simp only [Instr.loadAt, Instr.sureAddr, Sem.run_bind, Sem.run_pure, Result.andThen]
  exact run_loadVar_row _ _ 26 26 _ (0, 0) _ h.2 Try.underlying26 rfl (by rw [(zero_of_info tabI).2]; simp [tab_len])
theorem wp_load {P : Program} {o : Oper} {a : Act} {w : World} {K : Act → World → Prop} {Q : Exit → Act → World → Prop} {t : TypeId} {x : Operand} {v u : Value} (ho : o.op = .load t x) (hx : a.eval x = u) (hl : (Instr.loadAt t u).run P w = .ok v w) (h : K (a.put o.dst v) w) : Oper.wp P o a w K Q := by
  unfold Oper.wp execOp
  simp only [ho, hx, hl, Sem.run_bind, Sem.run_pure, Result.andThen_ok]
  exact h
theorem index_tab (ms : List S49) (j : Nat) (hj : j < 256) (w : World) : (Instr.index 26 (.agg (tab ms).toArray) (.int .i64 j)).run Try.prog w = .ok (.int .i64 (cnt ms j)) w := by
  have z3 : (sizeOf 3).run Try.prog w = .ok 1 w := by rfl
  have a3 : (isAgg 3).run Try.prog w = .ok false w := by simp [isAgg, run_underlying Try.underlying3]
  have ha := tab_at ms hj
  unfold Instr.index
  simp [run_underlying Try.underlying26, hj, asIntOf, part, ha, z3, a3]
theorem osend {w : World} {B g gt : Nat} {ms tb : List S49} (A0 : Option Addr) (c0 : Nat) (x now : Int) (h : IsP w B g gt ms tb) (hr0 : Kd.C (Kd.int .u8) w A0 1 [x]) (hc0 : 1 ≤ c0) (hn : ms.length ≤ 1000000) :
    Calls Try.prog 8 #[.pointer (some ⟨g, 0, none⟩), .slice A0 1 c0, .int .i64 now] w fun e w' => e = .returned (.int .i64 (sendE 1 ms.length)) ∧ IsP w' B g gt (sendL ms [x] now) tb ∧ Below B w w' := by
  refine (lsend_calls A0 1 c0 [x] now h.1 rfl hr0 hc0 (by simp) hn).mono ?_
  rintro e w1 ⟨rfl, h1, h2, h3⟩
  exact ⟨rfl, h.keep h1 h3, h2⟩
/-- A row of one byte, as it is read. -/
theorem one_row {w : World} {B : Nat} {ok : Nat → Prop} {v : Value} {x : Int} (h : Kd.R (Kd.int .u8) 5 w B ok v [x]) : ∃ b c cur, v = .slice (some ⟨b, 0, none⟩) 1 c ∧ w.heap[b]? = some (.cells cur 5 (0, 0)) ∧ w.cell? ⟨b, 0, none⟩ = some (.int .u8 x) := by
  have h' := h
  obtain ⟨A, c, rfl, hc, hC⟩ := Kd.R_reads h
  obtain ⟨ad, rfl, hcell⟩ := C_cells hC (by simp)
  obtain ⟨b, rfl⟩ := Kd.R_head h
  obtain ⟨_, inner, hown, _⟩ := h'
  rcases hown.2 with ⟨hv, _⟩ | ⟨g', cap', cur, hv, _, hh, _⟩
  · cases hv
  · injection hv with ha _ _
    injection ha with ha
    injection ha with ha
    subst ha
    exact ⟨b, c, cur, rfl, hh, by have := hcell 0 _ rfl; simpa [Addr.add] using this⟩
theorem sign_at {ms : List S49} (h : Signs ms) (j : Nat) (hj : j < ms.length) : ∃ y : Nat, y < 256 ∧ (rd_T49 ms j).f0 = [(y : Int)] ∧ 1 ≤ cnt ms y ∧ (∀ x, cnt (ms.eraseIdx j) x = cnt ms x - if x = y then 1 else 0) := by
  have e : rd_T49 ms j = ms[j] := by
    unfold rd_T49
    rw [List.getD_eq_getElem?_getD, Int.toNat_natCast, List.getElem?_eq_getElem hj]
    rfl
  obtain ⟨y, hy, hm⟩ := h ms[j] (List.getElem_mem hj)
  exact ⟨y, hy, by rw [e, hm], cnt_pos ms j hj hm, fun x => cnt_erase ms j hj x hm⟩
theorem otake {w : World} {B g gt : Nat} {ms tb : List S49} (p : Int) (h : IsP w B g gt ms tb) (hs : Signs ms) (h0 : 0 < ms.length) (hn : ms.length ≤ 1000000) :
    Calls Try.prog 9 #[.pointer (some ⟨g, 0, none⟩), .int .i64 p] w fun e w' => ∃ b c y j : Nat, e = .returned (.tuple #[.slice (some ⟨b, 0, none⟩) 1 c, .int .i64 0]) ∧ w'.cell? ⟨b, 0, none⟩ = some (.int .u8 y) ∧ y < 256 ∧ 1 ≤ cnt ms y ∧ j < ms.length ∧ IsP w' B g gt (ms.eraseIdx j) tb ∧ (∀ x, cnt (ms.eraseIdx j) x = cnt ms x - if x = y then 1 else 0) ∧ Below B w w' := by
  obtain ⟨j, hj, hat⟩ := atL_in (p := p) h0
  obtain ⟨y, hy, hf, h1, h2⟩ := sign_at hs j hj
  refine (ltake_some p j h.1 hn hat (by omega) (by omega)).mono ?_
  rintro e w1 ⟨v, rfl, hv, hl, hb, hk⟩
  rw [hf] at hv
  rw [Int.toNat_natCast] at hl
  obtain ⟨b, c, _, rfl, _, hc⟩ := one_row hv
  exact ⟨b, c, y, j, rfl, hc, hy, h1, hj, h.keep hl hk, h2, hb⟩
theorem olook {w : World} {B g gt : Nat} {ms tb : List S49} (p : Int) (h : IsP w B g gt ms tb) (hs : Signs ms) (h0 : 0 < ms.length) (hn : ms.length ≤ 1000000) :
    ∃ y j : Nat, ∃ sent : Int, y < 256 ∧ j < ms.length ∧ atL p ms.length = j ∧ (rd_T49 ms j).f0 = [(y : Int)] ∧ (rd_T49 ms j).f1 = sent ∧ Calls Try.prog 10 #[.pointer (some ⟨g, 0, none⟩), .int .i64 p] w fun e w' => ∃ b c cur, e = .returned (.tuple #[.slice (some ⟨b, 0, none⟩) 1 c, .int .i64 sent, .int .i64 0]) ∧ w'.heap[b]? = some (.cells cur 5 (0, 0)) ∧ w'.cell? ⟨b, 0, none⟩ = some (.int .u8 y) ∧ Below w.heap.size w w' := by
  obtain ⟨j, hj, hat⟩ := atL_in (p := p) h0
  obtain ⟨y, hy, hf, h1, h2⟩ := sign_at hs j hj
  refine ⟨y, j, _, hy, hj, hat, hf, rfl, (llook_some p j h.1 hn hat (by omega) (by omega) (by rw [hf]; simp)).mono ?_⟩
  rintro e w1 ⟨v, rfl, hv, hb⟩
  rw [hf] at hv
  obtain ⟨b, c, cur, rfl, hh, hc⟩ := one_row hv
  exact ⟨b, c, cur, rfl, hh, hc, hb⟩
theorem odouble {w : World} {B g gt j y : Nat} {ms tb : List S49} (p : Int) (h : IsP w B g gt ms tb) (hn : ms.length ≤ 1000000) (hj : j < ms.length) (hat : atL p ms.length = j) (hf : (rd_T49 ms j).f0 = [(y : Int)]) {b : Nat} {cur : Array Value} (hb : w.heap[b]? = some (.cells cur 5 (0, 0))) {u : Value} (hc : w.cell? ⟨b, 0, none⟩ = some u) :
    Calls Try.prog 11 #[.pointer (some ⟨g, 0, none⟩), .int .i64 p] w fun e w' => e = .returned (.int .i64 (sendE 1 ms.length)) ∧ IsP w' B g gt (sendL ms [(y : Int)] (rd_T49 ms j).f1) tb ∧ w'.cell? ⟨b, 0, none⟩ = some u ∧ Below B w w' := by
  obtain ⟨a1, a2⟩ := h.1.apart hb (by decide) (by decide)
  have hd := ldouble_some p j h.1 hn hat (by omega) (by omega) (by rw [hf]; simp)
  rw [hf] at hd
  refine hd.mono ?_
  rintro e w1 ⟨rfl, h1, h2, h3⟩
  exact ⟨rfl, h.keep h1 h3, h3.cell (a := ⟨b, 0, none⟩) a1 a2 hc, h2⟩
set_option maxHeartbeats 4000000 in
set_option maxRecDepth 100000 in
theorem once_calls (A : Option Addr) (c : Nat) (xs : List S29) (w : World) (hr : Kd.C k29 w A xs.length xs) (hc : xs.length ≤ c) (hm : xs.length ≤ 9223372036854775807) :
    Calls Try.prog 3 #[.slice A xs.length c] w fun e w' => e = .returned (.bool true) ∧ Below w.heap.size w w' := by
  have HR := Lib.hid hr
  have HC := Lib.hid hc
  by_cases h150 : 150 < xs.length
  · have b1 : decide ((150 : Int) < (xs.length : Int)) = true := decide_eq_true (by omega)
    clear hr hc hm h150 HR HC
    go_enter Try.func3, Try.ntmps3
    go_wp2_with fail
    refine (lnew_calls _).mono ?_
    rintro e w1 ⟨rfl, hw, hb⟩
    have HB := Lib.hid hb
    clear hw hb
    go_wp2_with fail
    refine (awake_calls _).mono ?_
    rintro e w2 ⟨rfl, hb2⟩
    have HB2 := Lib.hid (HB.out.trans (Below.mono hb2 HB.out.size))
    clear hb2
    go_wp2
    go_ret
    exact ⟨rfl, HB2.out⟩
  · have b1 : decide ((150 : Int) < (xs.length : Int)) = false := decide_eq_false (by omega)
    have HL := Lib.hid (show xs.length ≤ 150 by omega)
    have hz := (zero_of_info tabI).1
    clear hr hc hm h150
    go_enter Try.func3, Try.ntmps3
    go_wp2_with fail
    refine (lnew_calls _).mono ?_
    rintro e w1 ⟨rfl, hw, hb⟩
    have HW := Lib.hid hw
    have HB := Lib.hid hb
    clear hw hb
    go_wp2_with fail
    go_loopw [31] (fun i wr => ∃ (k : Int), 0 ≤ k ∧ k ≤ (xs.length : Int) ∧ i = .int .i64 k ∧ Hid (∃ ms, IsP wr w.heap.size w.heap.size w1.heap.size ms ms ∧ Signs ms ∧ (ms.length : Int) ≤ k ∧ Below w.heap.size w wr)) (fun i _ => ((xs.length : Int) - intOf i).toNat)
    case atStart => exact ⟨0, by omega, by omega, rfl, Lib.hid ⟨[], ⟨HW.out.alloc _, by rw [tab_nil]; exact heap_alloc_last w1 _⟩, by intro m hm; simp at hm, by simp, below_alloc HB.out _⟩⟩
    case round =>
      obtain ⟨k, hk0, hkm, rfl, H⟩ := hrel
      by_cases hlt : k < (xs.length : Int)
      · obtain ⟨ms, hp, hs, hl, hb⟩ := H.out
        obtain ⟨ad, A3, c3, rfl, x0, x1, x2, x3, _, _⟩ := at_T29 (Kd.C_below HR.out hb) k hk0 hlt
        obtain ⟨⟨kind, n, now, row⟩, hx⟩ : ∃ x, rd_T29 xs k = x := ⟨_, rfl⟩
        rw [hx] at x0 x1 x2 x3
        simp only at x0 x1 x2 x3
        obtain ⟨len3, hlen3⟩ : ∃ n, row.length = n := ⟨_, rfl⟩
        rw [hlen3] at x3
        have HP := Lib.hid (hp.alloc (.cells #[.int .i64 kind, .int .i64 n, .int .i64 now, .slice A3 len3 c3] 29))
        have HB1 := Lib.hid (below_alloc hb (.cells #[.int .i64 kind, .int .i64 n, .int .i64 now, .slice A3 len3 c3] 29))
        have HS := Lib.hid hs
        have HML := Lib.hid hl
        have HLT := Lib.hid hlt
        have wk : wrap64 (k + 1) = k + 1 := wrap64_id (by omega) (by have := HL.out; omega)
        clear hx hs hl hp hb H hlen3
        by_cases k1 : kind = 1
        · subst k1
          obtain ⟨x, hxx⟩ : ∃ x : Nat, now % 256 = (x : Int) := ⟨(now % 256).toNat, by omega⟩
          have HX := Lib.hid (show x < 256 by omega)
          have x5 : (x : Int) < 256 := by omega
          have HP2 := Lib.hid (HP.out.alloc (.cells #[.int .u8 x] 5))
          have HB2 := Lib.hid (below_alloc HB1.out (.cells #[.int .u8 x] 5))
          have hnew := heap_alloc_new (wr.alloc (.cells #[.int .i64 1, .int .i64 n, .int .i64 now, .slice A3 len3 c3] 29)) (.cells #[.int .u8 x] 5)
          rw [World.size_alloc] at hnew
          have hS := osend (some ⟨wr.heap.size + 1, 0, none⟩) 1 x now HP2.out (C_of_block (pre := []) (post := []) (t := 5) (fr := (0, 0)) (by simpa [nums] using hnew) rfl (by simp)) (by decide) (by have := HML.out; have := HL.out; omega)
          have HNEW := Lib.hid (show ∀ w2, IsP w2 w.heap.size w.heap.size w1.heap.size (ms ++ [⟨[(x : Int)], now⟩]) ms → IsP (w2.setCell ⟨w1.heap.size, x, none⟩ (.int .i64 (cnt ms x + 1))) w.heap.size w.heap.size w1.heap.size (ms ++ [⟨[(x : Int)], now⟩]) (ms ++ [⟨[(x : Int)], now⟩]) from fun w2 h => h.set HX.out (by rw [cnt_app ms _ x (y := x) rfl, if_pos rfl]) (fun y hy => by rw [cnt_app ms _ y (y := x) rfl, if_neg hy]; omega))
          obtain ⟨q, hq⟩ : ∃ q, cnt ms x = q := ⟨_, rfl⟩
          have HQ := Lib.hid hq
          have wq : wrap64 (q + 1) = q + 1 := wrap64_id (by have := cnt_nonneg ms x; omega) (by have := cnt_le ms x; have := HML.out; have := HL.out; omega)
          by_cases h64 : 64 ≤ ms.length
          · have HS1 : Hid _ := Lib.hid hS
            rw [show sendE 1 ms.length = 8 by unfold sendE; rw [if_neg (by decide), if_pos h64], show sendL ms [(x : Int)] now = ms by unfold sendL; rw [if_neg (by simp), if_pos h64]] at HS1
            clear hS h64 hnew hq
            go_wp2_with fail
            with_reducible refine HS1.out.mono ?_
            rintro e w2 ⟨rfl, h2, hb2⟩
            have H2 := Lib.hid h2
            have HB3 := Lib.hid (HB2.out.trans hb2)
            clear h2 hb2
            go_wp2
            go_roundw
            case rel => exact ⟨k + 1, by omega, by have := HLT.out; omega, by rw [wk], Lib.hid ⟨ms, H2.out, HS.out, by have := HML.out; omega, HB3.out⟩⟩
            case measure => simp [intOf]; have := HLT.out; omega
          · have HS1 : Hid _ := Lib.hid hS
            rw [show sendE 1 ms.length = 0 by unfold sendE; rw [if_neg (by decide), if_neg h64], show sendL ms [(x : Int)] now = ms ++ [⟨[(x : Int)], now⟩] by unfold sendL; rw [if_neg (by simp), if_neg h64]] at HS1
            clear hS h64 hnew hq
            go_wp2_with fail
            with_reducible refine HS1.out.mono ?_
            rintro e w2 ⟨rfl, h2, hb2⟩
            obtain ⟨z1, z2⟩ := h2.cell HX.out
            rw [HQ.out] at z1
            have hn2 := HNEW.out _ h2
            rw [HQ.out] at hn2
            have H2 := Lib.hid hn2
            have HB3 := Lib.hid (HB2.out.trans hb2)
            clear h2 hb2 hn2
            go_wp2
            go_roundw
            case rel => exact ⟨k + 1, by omega, by have := HLT.out; omega, by rw [wk], Lib.hid ⟨_, H2.out, HS.out.app HX.out rfl, by have := HML.out; simp; omega, HB3.out.setCell (p := ⟨w1.heap.size, x, none⟩) HB.out.size _⟩⟩
            case measure => simp [intOf]; have := HLT.out; omega
        · have k1f : (kind = 1) = False := eq_false k1
          have k1b : (kind == 1) = false := by simpa using k1
          clear k1
          by_cases k2 : kind = 2
          · subst k2
            clear k1f k1b
            by_cases hms : ms = []
            · subst hms
              have HT := Lib.hid (ltake_none n HP.out.1)
              go_wp2_with fail
              with_reducible refine HT.out.mono ?_
              rintro e w2 ⟨rfl, rfl⟩
              go_wp2
              go_roundw
              case rel => exact ⟨k + 1, by omega, by have := HLT.out; omega, by rw [wk], Lib.hid ⟨[], HP.out, HS.out, by have := HML.out; omega, HB1.out⟩⟩
              case measure => simp [intOf]; have := HLT.out; omega
            · have HT := Lib.hid (otake n HP.out HS.out (List.length_pos_iff.mpr hms) (by have := HML.out; have := HL.out; omega))
              clear hms
              go_wp2_with fail
              with_reducible refine HT.out.mono ?_
              rintro e w2 ⟨b, cb, y, j, rfl, hcell, hy, hq1, hj, h2, hcnt, hb2⟩
              have HY := Lib.hid hy
              have y5 : (y : Int) < 256 := by omega
              obtain ⟨z1, z2⟩ := h2.cell hy
              have hn2 := h2.set (tb' := ms.eraseIdx j) hy rfl (fun x hx => by rw [hcnt x, if_neg hx]; omega)
              rw [hcnt y, if_pos rfl] at hn2
              obtain ⟨q, hq⟩ : ∃ q, cnt ms y = q := ⟨_, rfl⟩
              rw [hq] at z1 hn2 hq1
              have hqle := cnt_le ms y
              rw [hq] at hqle
              have wq : wrap64 (q - 1) = q - 1 := wrap64_id (by omega) (by have := HML.out; have := HL.out; omega)
              have d1 : decide (q < 1) = false := decide_eq_false (by omega)
              have H2 := Lib.hid hn2
              have HB3 := Lib.hid (HB1.out.trans hb2)
              have HJ := Lib.hid hj
              clear hy hq1 hj h2 hcnt hb2 hn2 hq hqle
              go_wp2
              go_roundw
              case rel => exact ⟨k + 1, by omega, by have := HLT.out; omega, by rw [wk], Lib.hid ⟨_, H2.out, HS.out.erase j, by have := HML.out; rw [List.length_eraseIdx]; split <;> omega, HB3.out.setCell (p := ⟨w1.heap.size, y, none⟩) HB.out.size _⟩⟩
              case measure => simp [intOf]; have := HLT.out; omega
          · have k2f : (kind = 2) = False := eq_false k2
            have k2b : (kind == 2) = false := by simpa using k2
            clear k2
            by_cases k4 : kind = 4
            · subst k4
              clear k1f k1b k2f k2b
              by_cases hms : ms = []
              · subst hms
                have HT := Lib.hid (llook_none n HP.out.1)
                have HD := Lib.hid (ldouble_none n HP.out.1)
                go_wp2_with fail
                with_reducible refine HT.out.mono ?_
                rintro e w2 ⟨rfl, rfl⟩
                go_wp2_with fail
                with_reducible refine HD.out.mono ?_
                rintro e w2 ⟨rfl, rfl⟩
                go_wp2
                go_roundw
                case rel => exact ⟨k + 1, by omega, by have := HLT.out; omega, by rw [wk], Lib.hid ⟨[], HP.out, HS.out, by have := HML.out; omega, HB1.out⟩⟩
                case measure => simp [intOf]; have := HLT.out; omega
              · obtain ⟨y, j, sent, hy, hj, hat, hf, hsent, hlook⟩ := olook n HP.out HS.out (List.length_pos_iff.mpr hms) (by have := HML.out; have := HL.out; omega)
                have HT := Lib.hid hlook
                have HY := Lib.hid hy
                have HJ := Lib.hid hj
                have HAT := Lib.hid hat
                have HF := Lib.hid hf
                have y5 : (y : Int) < 256 := by omega
                have HNX := Lib.hid (show (wr.alloc (.cells #[.int .i64 4, .int .i64 n, .int .i64 now, .slice A3 len3 c3] 29)).cell? ⟨wr.heap.size, 1, none⟩ = some (.int .i64 n) from (blk_cell (by simpa using heap_alloc_new wr _) 1).trans rfl)
                clear hms hy hj hat hf hsent hlook
                go_wp2_with fail
                with_reducible refine HT.out.mono ?_
                rintro e w2 ⟨b, cb, cur, rfl, hblk, hcell, hb2⟩
                have HP3 := Lib.hid (HP.out.below hb2)
                have HB3 := Lib.hid (HB1.out.trans (Below.mono hb2 HB1.out.size))
                have HD := odouble n HP3.out (by have := HML.out; have := HL.out; omega) HJ.out HAT.out HF.out hblk hcell
                have n1 : w2.cell? ⟨wr.heap.size, 1, none⟩ = some (.int .i64 n) := (hb2.cell (World.block_lt_of_cell? _ _ HNX.out)).trans HNX.out
                obtain ⟨s1, hs1⟩ : ∃ s1, (rd_T49 ms j).f1 = s1 := ⟨_, rfl⟩
                rw [hs1] at HD
                clear hb2 hblk hcell HT HNX
                by_cases h64 : 64 ≤ ms.length
                · rw [show sendE 1 ms.length = 8 by unfold sendE; rw [if_neg (by decide), if_pos h64], show sendL ms [(y : Int)] s1 = ms by unfold sendL; rw [if_neg (by simp), if_pos h64]] at HD
                  have HD1 := Lib.hid HD
                  clear HD h64 hs1
                  go_wp2_with fail
                  with_reducible refine HD1.out.mono ?_
                  rintro e w3 ⟨rfl, h3, hc3, hb3⟩
                  have H3 := Lib.hid h3
                  have HB4 := Lib.hid (HB3.out.trans hb3)
                  clear h3 hb3
                  go_wp2
                  go_roundw
                  case rel => exact ⟨k + 1, by omega, by have := HLT.out; omega, by rw [wk], Lib.hid ⟨ms, H3.out, HS.out, by have := HML.out; omega, HB4.out⟩⟩
                  case measure => simp [intOf]; have := HLT.out; omega
                · rw [show sendE 1 ms.length = 0 by unfold sendE; rw [if_neg (by decide), if_neg h64], show sendL ms [(y : Int)] s1 = ms ++ [⟨[(y : Int)], s1⟩] by unfold sendL; rw [if_neg (by simp), if_neg h64]] at HD
                  have HD1 := Lib.hid HD
                  clear HD h64 hs1
                  go_wp2_with fail
                  with_reducible refine HD1.out.mono ?_
                  rintro e w3 ⟨rfl, h3, hc3, hb3⟩
                  obtain ⟨z1, z2⟩ := h3.cell HY.out
                  have hn2 := h3.set (tb' := ms ++ [⟨[(y : Int)], s1⟩]) HY.out (v := cnt ms y + 1) (by rw [cnt_app ms _ y (y := y) rfl, if_pos rfl]) (fun x hx => by rw [cnt_app ms _ x (y := y) rfl, if_neg hx]; omega)
                  obtain ⟨q, hq⟩ : ∃ q, cnt ms y = q := ⟨_, rfl⟩
                  have wq : wrap64 (q + 1) = q + 1 := wrap64_id (by have := cnt_nonneg ms y; omega) (by have := cnt_le ms y; have := HML.out; have := HL.out; omega)
                  rw [hq] at z1 hn2
                  have H3 := Lib.hid hn2
                  have HB4 := Lib.hid (HB3.out.trans hb3)
                  clear h3 hb3 hn2 hq
                  go_wp2
                  go_roundw
                  case rel => exact ⟨k + 1, by omega, by have := HLT.out; omega, by rw [wk], Lib.hid ⟨_, H3.out, HS.out.app HY.out rfl, by have := HML.out; simp; omega, HB4.out.setCell (p := ⟨w1.heap.size, y, none⟩) HB.out.size _⟩⟩
                  case measure => simp [intOf]; have := HLT.out; omega
            · have k4f : (kind = 4) = False := eq_false k4
              have k4b : (kind == 4) = false := by simpa using k4
              clear k4
              go_wp2
              go_roundw
              case rel => exact ⟨k + 1, by omega, by have := HLT.out; omega, by rw [wk], Lib.hid ⟨ms, HP.out, HS.out, by have := HML.out; omega, HB1.out⟩⟩
              case measure => simp [intOf]; have := HLT.out; omega
      · obtain ⟨ms, hp, hs, hl, hb⟩ := H.out
        have hld := load_tab hp
        have HP := Lib.hid hp
        have HS := Lib.hid hs
        have HL2 := Lib.hid (show (ms.length : Int) ≤ 150 by have := HL.out; omega)
        have HB1 := Lib.hid hb
        clear hp hs hl hb H
        go_wp2_with fail
        refine wp_load (v := .agg (tab ms).toArray) (t := 26) (x := .tmp 4) (u := .pointer (some ⟨w1.heap.size, 0, none⟩)) rfl rfl hld ?_
        obtain ⟨T, hT⟩ : ∃ T, (tab ms).toArray = T := ⟨_, rfl⟩
        rw [hT]
        have HT := Lib.hid hT
        clear hT hld
        simp only [Act.put]
        go_at_K
        go_wp2_with fail
        go_loopw [13, 110] (fun s i wr2 => ∃ j : Nat, j ≤ 256 ∧ i = .int .i64 j ∧ s = .int .i64 (sumTo ms j) ∧ wr2 = wr) (fun _ i _ => (256 - intOf i).toNat)
        case atStart => exact ⟨0, by omega, rfl, rfl, rfl⟩
        case round =>
          obtain ⟨j, hj, rfl, rfl, rfl⟩ := hrel
          by_cases hj2 : (j : Int) < 256
          · have hix := index_tab ms j (by omega)
            rw [HT.out] at hix
            have hsum : sumTo ms j + cnt ms j = sumTo ms (j + 1) := rfl
            have hbd := sumTo_bound ms (j + 1)
            have ws : wrap64 (sumTo ms j + cnt ms j) = sumTo ms (j + 1) := by
              rw [hsum]
              refine wrap64_id (by omega) ?_
              have h1 := HL2.out
              have h2 : ((j + 1 : Nat) : Int) * (ms.length : Int) ≤ 256 * 150 := Int.mul_le_mul (by omega) h1 (by omega) (by decide)
              omega
            have wj : wrap64 ((j : Int) + 1) = ((j + 1 : Nat) : Int) := (wrap64_id (by omega) (by omega)).trans (by simp)
            clear hsum hbd
            go_wp2
            go_roundw
            case rel => exact ⟨j + 1, by omega, by first | simp | rw [wj], by first | rfl | rw [ws] | simp [ws], by first | rfl | trivial⟩
            case measure => simp [intOf]; omega
          · have hj3 : j = 256 := by omega
            subst hj3
            have hall := sumTo_all ms HS.out
            rw [hall]
            go_wp2_with fail
            have hlen := llen_calls HP.out.1
            with_reducible refine hlen.mono ?_
            clear hlen
            rintro e w2 ⟨rfl, rfl⟩
            go_wp2_with fail
            refine (awake_calls _).mono ?_
            rintro e w3 ⟨rfl, hb3⟩
            have HB3 := Lib.hid (HB1.out.trans (Below.mono hb3 HB1.out.size))
            clear hb3
            go_wp2
            go_ret
            exact ⟨rfl, HB3.out⟩
end Go.Proofs.Ytklillecmjooeaa.Hand
