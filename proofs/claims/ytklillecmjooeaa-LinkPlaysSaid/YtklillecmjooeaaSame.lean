/- The law's Same: a link's messages and the document's. -/
import Derived.Test.YtklillecmjooeaaProg
import Derived.Below
import Derived.Deep.Draws
import Derived.Deep.AppendLies
import Derived.Maps.AppendAt
import Derived.OwnWalk
import Derived.Laws.BytesArg
import Derived.Laws.MakeOwn
import Derived.Laws.OwnMore
import Derived.Deep.OwnRows
import Derived.Tactics
import Derived.Lib.ConvBytes
import Derived.Laws.Slices
import Derived.WalkKit
import Derived.KernelRfl
import Derived.RowKit3
import Derived.Deep.LoopGhost
import Derived.Deep.QuietTactic
import Derived.BigQuiet
import Derived.WideLaws
import Derived.Deep.DeepCutAuto
import Derived.Deep.CutBlock
import Derived.Deep.RegionHeld3
import Derived.Laws.Rows
import Derived.Lib.AppendStr
import Derived.ArgAppend
import Derived.Laws.IdiomCopy
import Derived.OrdersHeld
import Derived.Laws.BitsLemmas
import Derived.RowKit
import Derived.StillTailTactics
import Derived.Test.YtklillecmjooeaaWWords
import Derived.Test.YtklillecmjooeaaWLast
import Derived.Test.YtklillecmjooeaaWMore
import Derived.Lib.Hide
import Derived.LaidEql
import Derived.Outline
import Derived.Deep.RegionLaw
import Derived.Deep.DrawnRows
import Derived.Test.YtklillecmjooeaaLook
import Derived.Test.YtklillecmjooeaaOldest
namespace Go.Proofs.Ytklillecmjooeaa.Hand
open Go Go.RowKit Go.Proofs.Ytklillecmjooeaa.Plain Go.Proofs.Ytklillecmjooeaa.PAll Go.Proofs.YtklillecmjooeaaW.PrintWords Go.Proofs.YtklillecmjooeaaW.PrintLast Go.Proofs.YtklillecmjooeaaW.PrintMore
set_option linter.unusedVariables false
set_option linter.unusedSimpArgs false
attribute [local go_sem ↓] Go.wp_at_zero Go.wp_at_succ
/-- The document's message. -/
def toX (m : S49) : S58 := ⟨strOfNums m.f0, m.f1⟩
def IsX (w : World) (B : Nat) (v : Value) (xs : List S58) : Prop := Kd.R k58 58 w B (fun _ => True) v xs
theorem rdX {ms : List S49} {j : Nat} (h : j < ms.length) : rd_T58 (ms.map toX) j = toX (rd_T49 ms j) := by
  unfold rd_T58 rd_T49
  rw [List.getD_eq_getElem?_getD, List.getD_eq_getElem?_getD, Int.toNat_natCast, List.getElem?_map, List.getElem?_eq_getElem h]
  rfl
theorem xcells {w : World} {A : Option Addr} {n c : Nat} {ms : List S49} {B : Nat} (hx : IsX w B (.slice A n c) (ms.map toX)) (hp : 0 < ms.length) : n = ms.length ∧ ∃ ad, A = some ad ∧ ∀ (wr : World) (j : Nat), Below w.heap.size w wr → j < ms.length → wr.cell? (ad.add (j * 2)) = some (.string (strOfNums (rd_T49 ms j).f0)) ∧ wr.cell? ⟨(ad.add (j * 2)).block, (ad.add (j * 2)).off + 1, none⟩ = some (.int .i64 (sentOf ms j)) := by
  have hl : (ms.map toX).length = ms.length := List.length_map _
  obtain ⟨h1, _, hC⟩ := Kd.R_reads' hx
  rw [List.length_map] at h1
  obtain rfl : n = ms.length := by omega
  obtain ⟨ad, rfl, _⟩ := at_T58 hC 0 (by omega) (by omega)
  refine ⟨rfl, ad, rfl, fun wr j hb hj => ?_⟩
  obtain ⟨ad', e, x0, x1⟩ := at_T58 hC j (by omega) (by omega)
  injection e with e
  subst e
  rw [rdX hj, Int.toNat_natCast] at x0 x1
  exact ⟨(hb.cell (World.block_lt_of_cell? w _ x0)).trans x0, (hb.cell (World.block_lt_of_cell? w _ x1)).trans x1⟩
set_option maxHeartbeats 4000000 in
set_option maxRecDepth 100000 in
theorem same_none {w : World} {B g : Nat} {A : Option Addr} {c : Nat} (h : IsL w B g []) :
    Calls Try.prog 16 #[.pointer (some ⟨g, 0, none⟩), .slice A 0 c] w fun e w' => e = .returned (.bool true) ∧ Below w.heap.size w w' := by
  have HLE := Lib.hid (llen_calls h)
  have HOL := Lib.hid (loldest_none h)
  have HLO := Lib.hid (llook_none 3 h)
  clear h
  go_enter Try.func16, Try.ntmps16
  go_wp2_with fail
  with_reducible refine HLE.out.mono ?_
  rintro e w1 ⟨rfl, rfl⟩
  go_wp2_with fail
  go_loopw [24] (fun i wr => i = .int .i64 0 ∧ wr = w) (fun _ _ => 0)
  case atStart => exact ⟨rfl, rfl⟩
  case round =>
    obtain ⟨rfl, rfl⟩ := hrel
    go_wp2_with fail
    with_reducible refine HOL.out.mono ?_
    rintro e w2 ⟨rfl, rfl⟩
    go_wp2_with fail
    with_reducible refine HLO.out.mono ?_
    rintro e w2 ⟨rfl, rfl⟩
    go_wp2
    go_ret
    exact ⟨rfl, Below.refl _ _⟩
set_option maxHeartbeats 4000000 in
set_option maxRecDepth 100000 in
theorem same_some {w : World} {B g : Nat} {A : Option Addr} {n0 c : Nat} {ms : List S49} (h : IsL w B g ms) (hx : IsX w B (.slice A n0 c) (ms.map toX)) (hp : 0 < ms.length) (hml : ms.length ≤ 1000000) (hbl : ∀ m ∈ ms, m.f0.length ≤ 200000) :
    Calls Try.prog 16 #[.pointer (some ⟨g, 0, none⟩), .slice A n0 c] w fun e w' => e = .returned (.bool true) ∧ Below w.heap.size w w' := by
  obtain ⟨rfl, ad, rfl, hxc⟩ := xcells hx hp
  have HC := Lib.hid hxc
  have HLE := Lib.hid (llen_calls h)
  have HLO : Hid (∀ (wr : World) (j : Nat), Below w.heap.size w wr → j < ms.length → Calls Try.prog 10 #[.pointer (some ⟨g, 0, none⟩), .int .i64 j] wr fun e w' => ∃ v, e = .returned (.tuple #[v, .int .i64 (sentOf ms j), .int .i64 0]) ∧ (convert 27 9 v).run Try.prog w' = .ok (.string (strOfNums (rd_T49 ms j).f0)) w' ∧ Below wr.heap.size wr w') := Lib.hid fun wr j hb hj => by
    have hmem : rd_T49 ms j ∈ ms := by
      unfold rd_T49
      rw [List.getD_eq_getElem?_getD, Int.toNat_natCast, List.getElem?_eq_getElem hj]
      exact List.getElem_mem _
    refine (llook_some j j (h.below hb) hml (by unfold atL; rw [if_neg (by omega)]; exact Int.emod_eq_of_lt (by omega) (by omega)) (by omega) (by omega) (by have := hbl _ hmem; omega)).mono ?_
    rintro e w1 ⟨v, rfl, hv, hb1⟩
    exact ⟨v, rfl, own_string (P := Try.prog) Try.underlying27 Try.underlying5 Try.underlying9 (Kd.own_of_R hv), hb1⟩
  have HOL : Hid (∀ wr : World, Below w.heap.size w wr → Calls Try.prog 23 #[.pointer (some ⟨g, 0, none⟩)] wr fun e w' => e = .returned (.tuple #[.int .i64 (bestTo (sentOf ms) ms.length), .int .i64 (sentOf ms (bestTo (sentOf ms) ms.length)), .int .i64 0]) ∧ Below wr.heap.size wr w') := Lib.hid fun wr hb => loldest_some (h.below hb) hp hml
  obtain ⟨T, hT⟩ : ∃ T : Nat → ByteArray, (fun j : Nat => strOfNums (rd_T49 ms j).f0) = T := ⟨_, rfl⟩
  have hT' : ∀ j : Nat, strOfNums (rd_T49 ms j).f0 = T j := fun j => congrFun hT j
  simp only [hT'] at HC HLO
  obtain ⟨f, hf⟩ : ∃ f, sentOf ms = f := ⟨_, rfl⟩
  rw [hf] at HC HLO HOL
  obtain ⟨n, hn⟩ : ∃ n, ms.length = n := ⟨_, rfl⟩
  rw [hn] at HC HLO HOL HLE hp hml ⊢
  obtain ⟨M, hM⟩ : ∃ M, bestTo f n = M := ⟨_, rfl⟩
  rw [hM] at HOL
  have HM2 := Lib.hid hM
  have e0 : ((n : Int) = 0) = False := eq_false (by omega)
  have e1 : (n = 0) = False := eq_false (by omega)
  have HP := Lib.hid hp
  have HM := Lib.hid hml
  clear hf hn h hx hml hbl hxc hT hT' hM hp
  go_enter Try.func16, Try.ntmps16
  go_wp2_with fail
  with_reducible refine HLE.out.mono ?_
  rintro e w1 ⟨rfl, rfl⟩
  go_wp2_with fail
  go_loopw [5, 24] (fun b i wr => ∃ j : Nat, j ≤ n ∧ i = .int .i64 j ∧ b = .int .i64 (bestTo f j) ∧ Hid (Below w.heap.size w wr)) (fun _ i _ => ((n : Int) - intOf i).toNat)
  case atStart => exact ⟨0, by omega, rfl, rfl, Lib.hid (Below.refl _ _)⟩
  case round =>
    obtain ⟨j, hj, rfl, rfl, HB⟩ := hrel
    by_cases hlt2 : (j : Int) < n
    · have hbl := bestTo_lt' f HP.out hj
      obtain ⟨m, hm⟩ : ∃ m, bestTo f j = m := ⟨_, rfl⟩
      rw [hm] at hbl ⊢
      obtain ⟨y1, y2⟩ := HC.out wr j HB.out (by omega)
      have HB2 := Lib.hid (below_alloc HB.out (.cells #[.string (T j), .int .i64 (f j)] 58))
      have hml : (m : Int) < n := by omega
      have wj : wrap64 ((j : Int) + 1) = ((j + 1 : Nat) : Int) := (wrap64_id (by omega) (by have := HM.out; omega)).trans (by simp)
      have HBL := Lib.hid hbl
      have HJ := Lib.hid (show j < n by omega)
      have HMJ := Lib.hid hm
      have HLOJ := Lib.hid (HLO.out _ j HB2.out HJ.out)
      have hnew : (wr.alloc (.cells #[.string (T j), .int .i64 (f j)] 58)).heap[wr.heap.size]? = some (.cells #[.string (T j), .int .i64 (f j)] 58 (0, 0)) := by simpa using heap_alloc_new wr _
      have HN0 := Lib.hid (show (wr.alloc (.cells #[.string (T j), .int .i64 (f j)] 58)).cell? ⟨wr.heap.size, 0, none⟩ = some (.string (T j)) from (blk_cell hnew 0).trans rfl)
      have HN1 := Lib.hid (show (wr.alloc (.cells #[.string (T j), .int .i64 (f j)] 58)).cell? ⟨wr.heap.size, 1, none⟩ = some (.int .i64 (f j)) from (blk_cell hnew 1).trans rfl)
      clear hbl hm HLO hnew hj
      go_wp2_with fail
      with_reducible refine HLOJ.out.mono ?_
      clear HLOJ
      rintro e w2 ⟨v, rfl, hcv, hb2⟩
      have n0 : w2.cell? ⟨wr.heap.size, 0, none⟩ = some (.string (T j)) := (hb2.cell (World.block_lt_of_cell? _ _ HN0.out)).trans HN0.out
      have n1 : w2.cell? ⟨wr.heap.size, 1, none⟩ = some (.int .i64 (f j)) := (hb2.cell (World.block_lt_of_cell? _ _ HN1.out)).trans HN1.out
      have HB3 := Lib.hid (HB2.out.trans (Below.mono hb2 HB2.out.size))
      obtain ⟨_, z2⟩ := HC.out w2 m HB3.out HBL.out
      clear hb2 HN0 HN1 HB2 y1 y2
      by_cases hlss : f j < f m
      · have hb1 : bestTo f (j + 1) = j := by unfold bestTo; rw [HMJ.out, if_pos hlss]
        have HB1 := Lib.hid hb1
        have d1 : decide (f j < f m) = true := decide_eq_true hlss
        clear hlss hb1
        go_wp2_with fail
        go_quiet (fail)
        go_wp2
        go_roundw
        case rel => exact ⟨j + 1, by have := HJ.out; omega, by first | rw [wj] | simp, by rw [HB1.out], Lib.hid (pw_below_drewN HB3.out _)⟩
        case measure => exact meas_lt wj hlt2
      · have hb1 : bestTo f (j + 1) = m := by unfold bestTo; rw [HMJ.out, if_neg hlss]
        have HB1 := Lib.hid hb1
        have d1 : decide (f j < f m) = false := decide_eq_false hlss
        clear hlss hb1
        go_wp2_with fail
        go_quiet (fail)
        go_wp2
        go_roundw
        case rel => exact ⟨j + 1, by have := HJ.out; omega, by first | rw [wj] | simp, by rw [HB1.out], Lib.hid (pw_below_drewN HB3.out _)⟩
        case measure => exact meas_lt wj hlt2
    · have hjn : j = n := by omega
      have hbl := bestTo_lt' f HP.out (Nat.le_refl n)
      rw [hjn, HM2.out]
      rw [HM2.out] at hbl
      have hml : (M : Int) < n := by omega
      have HBL := Lib.hid hbl
      clear hjn hlt2 hj hbl
      go_wp2_with fail
      with_reducible refine (HOL.out _ HB.out).mono ?_
      rintro e w2 ⟨rfl, hb2⟩
      have HB3 := Lib.hid (HB.out.trans (Below.mono hb2 HB.out.size))
      obtain ⟨_, z2⟩ := HC.out w2 M HB3.out HBL.out
      clear hb2
      go_wp2
      go_ret
      exact ⟨rfl, HB3.out⟩
end Go.Proofs.Ytklillecmjooeaa.Hand
