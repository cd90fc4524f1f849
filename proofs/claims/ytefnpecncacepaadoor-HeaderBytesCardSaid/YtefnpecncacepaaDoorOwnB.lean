/- Bytes of the call's own, the row of a converted string too: appended to, byte by byte. -/
import Derived.Test.YtefnpecncacepaaDoorProg
import Derived.Below
import Derived.Deep.Draws
import Derived.Deep.AppendLies
import Derived.Maps.AppendAt
import Derived.OwnWalk
import Derived.Laws.BytesArg
import Derived.Laws.MakeOwn
import Derived.Laws.OwnMore
import Derived.Deep.OwnRows
import Derived.Tactics
import Derived.Lib.ConvBytes
import Derived.Laws.Slices
import Derived.WalkKit
import Derived.KernelRfl
import Derived.RowKit3
import Derived.Deep.LoopGhost
import Derived.Deep.QuietTactic
import Derived.BigQuiet
import Derived.WideLaws
import Derived.Deep.DeepCutAuto
import Derived.Deep.CutBlock
import Derived.Deep.RegionHeld3
import Derived.Laws.Rows
import Derived.Lib.AppendStr
import Derived.ArgAppend
import Derived.Laws.IdiomCopy
import Derived.OrdersHeld
import Derived.Laws.BitsLemmas
import Derived.RowKit
import Derived.StillTailTactics
import Derived.Test.YtefnpecncacepaaDoorWWords
import Derived.Test.YtefnpecncacepaaDoorWLast
import Derived.Test.YtefnpecncacepaaDoorWMore
import Derived.Lib.ConvBytes
import Derived.Deep.RegionLaw
import Derived.Deep.RegionLawGrows
import Derived.Test.YtefnpecncacepaaDoorStrBytes
import Derived.Test.YtefnpecncacepaaDoorPushKeep
namespace Go.Proofs.YtefnpecncacepaaDoor.Hand
open Go Go.RowKit Go.Proofs.YtefnpecncacepaaDoorW.PrintWords Go.Proofs.YtefnpecncacepaaDoorW.PrintLast Go.Proofs.YtefnpecncacepaaDoorW.PrintMore
set_option linter.unusedVariables false
set_option linter.unusedSimpArgs false
theorem C_of_cells {w : World} {g o : Nat} {k : IntKind} {ys : List Int} (h : ∀ j : Nat, j < ys.length → w.cell? ⟨g, o + j, none⟩ = some (.int k (rd ys (j : Int)))) (hl : ys.length ≤ 9223372036854775807) : Kd.C (Kd.int k) w (some ⟨g, o, none⟩) ys.length ys := by
  refine ⟨rfl, hl, fun _ => ⟨⟨g, o, none⟩, rfl, fun j p hj => ⟨[.int k p], rfl, rfl, fun i u hu => ?_⟩⟩⟩
  have hjl := (List.getElem?_eq_some_iff.1 hj).1
  cases i with
  | succ i => simp at hu
  | zero =>
    have : u = .int k p := by simpa using hu.symm
    subst this
    show w.cell? ((⟨g, o, none⟩ : Addr).add (j * 1 + 0)) = _
    rw [cell_add, show o + (j * 1 + 0) = o + j by omega, h j hjl]
    have : rd ys (j : Int) = p := by
      unfold rd
      rw [Int.toNat_natCast, List.getD_eq_getElem?_getD, hj]
      rfl
    rw [this]
def OwnB (w : World) (base : Nat) (v : Value) (xs : List Int) : Prop := ∃ g cap cur lo hi, v = .slice (some ⟨g, 0, none⟩) xs.length cap ∧ base ≤ g ∧ w.heap[g]? = some (.cells cur 5 (lo, hi)) ∧ (hi = 0 ∨ cap ≤ lo) ∧ xs.length ≤ cap ∧ cap ≤ cur.size ∧ ∀ j : Nat, j < xs.length → cur[j]? = some (.int .u8 (rd xs (j : Int)))
theorem cell_fr {w : World} {g : Nat} {t : TypeId} {cs : Array Value} {fr : Nat × Nat} (h : w.heap[g]? = some (.cells cs t fr)) (i : Nat) : w.cell? ⟨g, i, none⟩ = cs[i]? := cell_of_row w g i cs t fr h
theorem set_fr {w : World} {g : Nat} {t : TypeId} {cs : Array Value} {fr : Nat × Nat} (h : w.heap[g]? = some (.cells cs t fr)) (i : Nat) (u : Value) : (w.setCell ⟨g, i, none⟩ u).heap[g]? = some (.cells (cs.setIfInBounds i u) t fr) := by
  simp [World.setCell, Array.getElem?_modify, h]
theorem OwnB.keep {w w' : World} {base : Nat} {v : Value} {xs : List Int} (h : OwnB w base v xs) (hb : Below w.heap.size w w') : OwnB w' base v xs := by
  obtain ⟨g, cap, cur, lo, hi, h1, h2, h3, h4⟩ := h
  exact ⟨g, cap, cur, lo, hi, h1, h2, (hb.block g (blk_lt h3)).trans h3, h4⟩
theorem OwnB.reads {w : World} {base : Nat} {v : Value} {xs : List Int} (h : OwnB w base v xs) (hl : xs.length ≤ 1000000) : ∃ A c, v = .slice A xs.length c ∧ xs.length ≤ c ∧ Kd.C (Kd.int .u8) w A xs.length xs := by
  obtain ⟨g, cap, cur, lo, hi, h1, h2, h3, h4, h5, h6, h7⟩ := h
  exact ⟨_, cap, h1, h5, C_of_cells (fun j hj => by rw [Nat.zero_add, cell_fr h3]; exact h7 j hj) (by omega)⟩
theorem ownB_of_bytes (W : World) {xs : List Int} (hb : ∀ x ∈ xs, 0 ≤ x ∧ x < 256) (hl : xs.length ≤ 1000000) : OwnB (Lib.bytesWorld W 5 (strOfNums xs)) W.heap.size (.slice (some ⟨W.heap.size, 0, none⟩) (strOfNums xs).size (grownCap W (strOfNums xs).size 0 5)) xs := by
  have hge := grownCap_ge W (strOfNums xs).size 0 5
  have hs := strOfNums_size xs
  have hsz : (Lib.bytesCells W 5 (strOfNums xs)).size = grownCap W (strOfNums xs).size 0 5 := by
    unfold Lib.bytesCells
    have : (strOfNums xs).data.size = xs.length := hs
    simp [this]
    omega
  refine ⟨W.heap.size, grownCap W (strOfNums xs).size 0 5, _, _, _, congrArg (fun n => Value.slice (some ⟨W.heap.size, 0, none⟩) n (grownCap W (strOfNums xs).size 0 5)) hs, Nat.le_refl _, Lib.bytesWorld_at_new W 5 (strOfNums xs), .inr (by rw [hsz]; omega), by omega, by rw [hsz]; omega, fun j hj => ?_⟩
  have hC := bytesW_C W hb (by omega)
  obtain ⟨ad, e, hc⟩ := C_cells hC (by omega)
  injection e with e
  subst e
  have h1 := hc j (.int .u8 (rd xs (j : Int))) (by simp [nums, rd, hj])
  rw [cell_add, Nat.zero_add, cell_fr (Lib.bytesWorld_at_new W 5 (strOfNums xs))] at h1
  exact h1
theorem info5' : (Tryd.prog.info? 5).map (fun i => (i.zero, i.size, i.bytes)) = some (some (.int .u8 0), 1, 1) := by kernel_rfl
theorem ownB_push {ops : Array Oper} {rest : List Oper} {o : Oper} {a : Act} {Q : Exit → Act → World → Prop} {w0 W : World} (base : Nat) (hg : o.guard = none) (s x : Operand)
    (ho : o.op = .call { callee := .builtin .append, args := #[s, x], argTypes := #[28, 28] })
    (v : Value) (xs : List Int) (p : Int) (hs : a.eval s = v) (hx : a.eval x = .slice (some ⟨W.heap.size, 0, none⟩) 1 1)
    (HO : OwnB W base v xs) (HB : Below base w0 W) (hbase : base ≤ W.heap.size) (hl : xs.length ≤ 900000)
    (h : ∀ v1 w1, OwnB w1 base v1 (xs ++ [p]) → Below base w0 w1 → wpList Tryd.prog ops Q rest (a.put o.dst v1) w1) :
    wpList Tryd.prog ops Q (o :: rest) a (W.alloc (.cells #[.int .u8 p] 5)) := by
  refine wpList_plain hg fun K hK => ?_
  obtain ⟨g, cap, cur, lo, hi, rfl, hgb, hgc, hfr, hcap, hcs, hcells⟩ := HO
  obtain ⟨I, hI, hzz⟩ := Option.map_eq_some_iff.1 info5'
  simp only [Prod.mk.injEq] at hzz
  have hw : Region.wanted o (yielded ops a.tmps) = true := by simp [Region.wanted, hg]
  have hgl : g < W.heap.size := blk_lt hgc
  have hWg : (W.alloc (.cells #[.int .u8 p] 5)).heap[g]? = some (.cells cur 5 (lo, hi)) := ((below_alloc (Below.refl _ W) (.cells #[.int .u8 p] 5)).block g hgl).trans hgc
  have hnew : (W.alloc (.cells #[.int .u8 p] 5)).heap[W.heap.size]? = some (.cells #[.int .u8 p] 5 (0, 0)) := by simpa using heap_alloc_new W _
  have hnews : ∀ j u, [Value.int .u8 p][j]? = some u → (W.alloc (.cells #[.int .u8 p] 5)).cell? ((⟨W.heap.size, 0, none⟩ : Addr).add j) = some u := by
    intro j u hj
    rw [cell_add, Nat.zero_add]
    refine (blk_cell hnew j).trans ?_
    simpa using hj
  have hone : ∀ u ∈ [Value.int .u8 p], u.oneCell' = true := by simp [Value.oneCell']
  have HBa : Below base w0 (W.alloc (.cells #[.int .u8 p] 5)) := HB.alloc hbase _
  have hlen : (xs ++ [p]).length = xs.length + 1 := by simp
  have hrd : ∀ j : Nat, j < xs.length → rd (xs ++ [p]) (j : Int) = rd xs (j : Int) := fun j hj => by simp [rd, List.getElem?_append_left hj]
  have hrd2 : rd (xs ++ [p]) (xs.length : Int) = p := by simp [rd]
  by_cases hroom : xs.length + 1 ≤ cap
  · have hst := step_append_room (P := Tryd.prog) (ops := ops) (o := o) (a := a) (K := K) (Q := Q) (E := True) hg s x 28 ho 5 I 1 Tryd.underlying28 hI hzz.2.1 g 0 xs.length cap hs ⟨W.heap.size, 0, none⟩ 1 1 [.int .u8 p] hx rfl hnews hone hroom (fun j hj => by
        have hj0 : j = 0 := by simpa using hj
        subst hj0
        have h5 : (0 + xs.length * 1 + 0 : Nat) < cur.size := by omega
        refine ⟨by rw [cell_fr hWg, Array.getElem?_eq_getElem h5]; rfl, ?_⟩
        simp only [World.frozen?, hWg]
        rcases hfr with rfl | hlo
        · simp
        · simp
          omega) ?_
    · rw [if_pos hw] at hst
      exact hst
    · show K (a.put o.dst (.slice (some ⟨g, 0, none⟩) (xs.length + 1) cap)) ((W.alloc (.cells #[.int .u8 p] 5)).setCell ⟨g, 0 + xs.length * 1, none⟩ (.int .u8 p))
      rw [show 0 + xs.length * 1 = xs.length by omega]
      refine hK _ _ (h _ _ ⟨g, cap, _, lo, hi, by rw [hlen], hgb, set_fr hWg xs.length (.int .u8 p), hfr, by omega, by simp; omega, fun j hj => ?_⟩ (HBa.setCell (p := ⟨g, xs.length, none⟩) hgb _))
      rw [Array.getElem?_setIfInBounds]
      by_cases hjn : xs.length = j
      · subst hjn
        have h8 : xs.length < cur.size := by omega
        simp [h8, hrd2]
      · rw [if_neg hjn, hrd j (by omega)]
        exact hcells j (by omega)
  · have hst := step_append_grows (P := Tryd.prog) (ops := ops) (o := o) (a := a) (K := K) (Q := Q) (E := True) hg s x 28 ho 5 I (.int .u8 0) 1 1 Tryd.underlying28 hI hzz.1 hzz.2.1 hzz.2.2 rfl (by decide) (some ⟨g, 0, none⟩) xs.length cap (nums .u8 xs) hs (by rintro ⟨⟩) (by simp [nums]) (by
        rintro b ⟨⟩ j u hu
        have hjl : j < xs.length := by
          have := (List.getElem?_eq_some_iff.1 hu).1
          simpa [nums] using this
        rw [cell_add, Nat.zero_add, cell_fr hWg, hcells j hjl, ← hu]
        simp [nums, rd, hjl]) ⟨W.heap.size, 0, none⟩ 1 1 [.int .u8 p] hx rfl hnews hone (by omega) (by simp only [maxLen]; omega) (by omega) ?_
    · rw [if_pos hw] at hst
      exact hst
    · intro v' w' hown' hgr
      obtain ⟨hxl, hform⟩ := hown'
      obtain ⟨g', cap', cur', rfl, hbg, hgc', hnc, hcm, hcs', htake⟩ := hform.resolve_left (by rintro ⟨_, h2⟩; omega)
      refine hK _ _ (h _ _ ⟨g', cap', cur', 0, 0, by rw [hlen], ?_, hgc', .inl rfl, by omega, by omega, fun j hj => ?_⟩ (HBa.grown hgr (by rw [World.size_alloc]; omega) (by rintro k ⟨⟩)))
      · rw [World.size_alloc] at hbg
        omega
      · have h9 : (nums .u8 xs ++ [Value.int .u8 p])[j]? = some (.int .u8 (rd (xs ++ [p]) (j : Int))) := by
          rw [show nums .u8 xs ++ [Value.int .u8 p] = nums .u8 (xs ++ [p]) by simp [nums]]
          unfold nums rd
          rw [List.getElem?_map, List.getElem?_eq_getElem hj, Int.toNat_natCast, List.getD_eq_getElem?_getD, List.getElem?_eq_getElem hj]
          rfl
        rw [← htake, List.getElem?_take_of_lt (by omega)] at h9
        simpa using h9
end Go.Proofs.YtefnpecncacepaaDoor.Hand
