/- An append of one number to a row of the call's own, in a region that draws: what the row held stays where it was. -/
import Derived.Test.YtfcmdhimlfoofaaProg
import Derived.Below
import Derived.Deep.Draws
import Derived.Deep.AppendLies
import Derived.Maps.AppendAt
import Derived.OwnWalk
import Derived.Laws.BytesArg
import Derived.Laws.MakeOwn
import Derived.Laws.OwnMore
import Derived.Deep.OwnRows
import Derived.Tactics
import Derived.Lib.ConvBytes
import Derived.Laws.Slices
import Derived.WalkKit
import Derived.KernelRfl
import Derived.RowKit3
import Derived.Deep.LoopGhost
import Derived.Deep.QuietTactic
import Derived.BigQuiet
import Derived.WideLaws
import Derived.Deep.DeepCutAuto
import Derived.Deep.CutBlock
import Derived.Deep.RegionHeld3
import Derived.Laws.Rows
import Derived.Lib.AppendStr
import Derived.ArgAppend
import Derived.Laws.IdiomCopy
import Derived.OrdersHeld
import Derived.Laws.BitsLemmas
import Derived.RowKit
import Derived.StillTailTactics
import Derived.Test.YtfcmdhimlfoofaaWWords
import Derived.Test.YtfcmdhimlfoofaaWLast
import Derived.Test.YtfcmdhimlfoofaaWMore
import Derived.Deep.RegionLaw
import Derived.Deep.RegionLawGrows
import Derived.Test.YtfcmdhimlfoofaaArrays
namespace Go.Proofs.Ytfcmdhimlfoofaa.Hand
open Go Go.RowKit Go.Proofs.YtfcmdhimlfoofaaW.PrintWords Go.Proofs.YtfcmdhimlfoofaaW.PrintLast Go.Proofs.YtfcmdhimlfoofaaW.PrintMore
set_option linter.unusedVariables false
set_option linter.unusedSimpArgs false
theorem cell_add {g o j : Nat} : ((⟨g, o, none⟩ : Addr).add j) = ⟨g, o + j, none⟩ := by
  unfold Addr.add
  split <;> simp_all
theorem R_at {k : IntKind} {e g n cap base : Nat} {ok : Nat → Prop} {w : World} {xs : List Int} (h : Kd.R (Kd.int k) e w base ok (.slice (some ⟨g, 0, none⟩) n cap) xs) {j : Nat} (hj : j < xs.length) : w.cell? ⟨g, j, none⟩ = some (.int k (rd xs (j : Int))) := by
  obtain ⟨hn, hc, hC⟩ := Kd.R_reads' h
  obtain ⟨ad, e, hcell⟩ := C_cells hC (by omega)
  injection e with e
  subst e
  have := hcell j (.int k (rd xs (j : Int))) (by simp [nums, rd, hj])
  rw [cell_add, Nat.zero_add] at this
  exact this
theorem R_push_keep {P : Program} {ops : Array Oper} {o : Oper} {a : Act} {Kc : Act → World → Prop} {Q : Exit → Act → World → Prop} {E : Prop} {k : IntKind} {w0 W : World} (base : Nat) (hg : o.guard = none) (s x : Operand) (t e : TypeId) (i : TypeInfo) (z : Value) (bytes : Nat)
    (ho : o.op = .call { callee := .builtin .append, args := #[s, x], argTypes := #[t, t] })
    (ht : P.underlying t = some (.slice e)) (hi : P.info? e = some i) (hz : i.zero = some z) (hs1 : i.size = 1) (hby : i.bytes = bytes) (hzs : z.cells.size = 1)
    (g n cap : Nat) (xs : List Int) (p : Int) (hs : a.eval s = .slice (some ⟨g, 0, none⟩) n cap) (hx : a.eval x = .slice (some ⟨W.heap.size, 0, none⟩) 1 1)
    (HO : (Kd.int k).R e W base (fun _ => True) (.slice (some ⟨g, 0, none⟩) n cap) xs) (HB : Below base w0 W) (hbase : base ≤ W.heap.size) (hl : (n + 1) * bytes ≤ 140737488355328) (hl2 : n + 1 ≤ 1000000)
    (h : ∀ v1 w1, (Kd.int k).R e w1 base (fun _ => True) v1 (xs ++ [p]) → Below base w0 w1 → (∀ j, j < n → w1.cell? ⟨g, j, none⟩ = W.cell? ⟨g, j, none⟩) → Kc (a.put o.dst v1) w1) :
    if Region.wanted o (yielded ops a.tmps) = true then Oper.wp P o a (W.alloc (.cells #[.int k p] e)) Kc Q else E := by
  have hown := Kd.own_of_R HO
  have hn : n = xs.length := (Kd.R_reads' HO).1
  have hcap : n ≤ cap := (Kd.R_reads' HO).2.1
  obtain ⟨hxl, hform⟩ := hown
  have hgl : g < W.heap.size := Kd.R_lt HO g rfl
  have hgb : base ≤ g := Kd.R_base HO g rfl
  obtain ⟨g', cap', cur, he, hbg, hgc, hnc, hcm, hcs, htake⟩ := hform.resolve_left (by rintro ⟨h1, _⟩; cases h1)
  injection he with h1 h2 h3
  injection h1 with h1
  injection h1 with h1
  subst h1
  subst h3
  have hWg : (W.alloc (.cells #[.int k p] e)).heap[g]? = some (.cells cur e (0, 0)) := blk_alloc hgc _
  have hnew : (W.alloc (.cells #[.int k p] e)).heap[W.heap.size]? = some (.cells #[.int k p] e (0, 0)) := by simpa using heap_alloc_new W _
  have hnews : ∀ j u, [Value.int k p][j]? = some u → (W.alloc (.cells #[.int k p] e)).cell? ((⟨W.heap.size, 0, none⟩ : Addr).add j) = some u := by
    intro j u hj
    rw [cell_add, Nat.zero_add]
    refine (blk_cell hnew j).trans ?_
    simpa using hj
  have hone : ∀ u ∈ [Value.int k p], u.oneCell' = true := by simp [Value.oneCell']
  have HBa : Below base w0 (W.alloc (.cells #[.int k p] e)) := HB.alloc hbase _
  have hkeepa : ∀ j, j < n → (W.alloc (.cells #[.int k p] e)).cell? ⟨g, j, none⟩ = W.cell? ⟨g, j, none⟩ := fun j _ => by
    rw [blk_cell hWg, blk_cell hgc]
  by_cases hroom : n + 1 ≤ cap
  · refine step_append_room hg s x t ho e i 1 ht hi hs1 g 0 n cap hs ⟨W.heap.size, 0, none⟩ 1 1 [.int k p] hx rfl hnews hone hroom ?_ ?_
    · intro j hj
      have hj0 : j = 0 := by simpa using hj
      subst hj0
      refine ⟨?_, blk_frozen hWg _⟩
      have h5 : (0 + n * 1 + 0 : Nat) < cur.size := by omega
      rw [blk_cell hWg, Array.getElem?_eq_getElem h5]
      rfl
    · show Kc (a.put o.dst (.slice (some ⟨g, 0, none⟩) (n + 1) cap)) ((W.alloc (.cells #[.int k p] e)).setCell ⟨g, 0 + n * 1, none⟩ (.int k p))
      rw [show 0 + n * 1 = n by omega]
      have hset := blk_set hWg n (.int k p)
      refine h _ _ (Kd.R_of_own ⟨by simp [encs], .inr ⟨g, cap, _, by simp [hn], hbg, hset, by simp; omega, hcm, by simp; omega, ?_⟩⟩ (fun _ _ => trivial)) (HBa.setCell (p := ⟨g, n, none⟩) hgb _) (fun j hj => ?_)
      · have hcl : n < cur.toList.length := by simp; omega
        have hlen : (xs ++ [p]).length * 1 = n + 1 := by simp; omega
        have ht2 : cur.toList.take n = encs (Value.int k) xs := by rw [← htake]; congr 1; omega
        rw [hlen, Array.toList_setIfInBounds, List.take_succ_eq_append_getElem (by simpa using hcl)]
        simp [encs_append, ht2, encs, List.take_set_of_le]
      · have : (cur.setIfInBounds n (.int k p))[j]? = cur[j]? := by
          rw [Array.getElem?_setIfInBounds]
          simp [show n ≠ j by omega]
        rw [blk_cell hset, this, blk_cell hgc]
  · refine step_append_grows hg s x t ho e i z 1 bytes ht hi hz hs1 hby hzs (by decide) (some ⟨g, 0, none⟩) n cap (encs (Value.int k) xs) hs (by rintro ⟨⟩) (by simp [encs, hn]) ?_ ⟨W.heap.size, 0, none⟩ 1 1 [.int k p] hx rfl hnews hone (by omega) (by simp only [maxLen]; omega) hl ?_
    · rintro b ⟨⟩ j u hu
      rw [cell_add, Nat.zero_add]
      refine (blk_cell hWg j).trans ?_
      rw [← htake] at hu
      have h3 : cur.toList[j]? = some u := by
        rw [List.getElem?_take] at hu
        split at hu
        · exact hu
        · cases hu
      simpa using h3
    · intro v' w' hown' hgr
      refine h _ _ (Kd.R_lower (Kd.R_of_own ?_ (fun _ _ => trivial)) (show base ≤ (W.alloc (.cells #[.int k p] e)).heap.size by rw [World.size_alloc]; omega)) (HBa.grown hgr (by rw [World.size_alloc]; omega) (by rintro k ⟨⟩)) (fun j hj => ?_)
      · rw [encs_append]
        have : (xs ++ [p]).length = n + 1 := by simp; omega
        rw [this]
        exact hown'
      · rw [World.cell?_of_block (w := W.alloc (.cells #[.int k p] e)) (hgr.block g (by rw [World.size_alloc]; omega) (by simp))]
        exact hkeepa j hj
end Go.Proofs.Ytfcmdhimlfoofaa.Hand
