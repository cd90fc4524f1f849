/- Several texts in one. -/
import Derived.Test.YtpjkhecefppamaaDoorProg
import Derived.Below
import Derived.Deep.Draws
import Derived.Deep.AppendLies
import Derived.Maps.AppendAt
import Derived.OwnWalk
import Derived.Laws.BytesArg
import Derived.Laws.MakeOwn
import Derived.Laws.OwnMore
import Derived.Deep.OwnRows
import Derived.Tactics
import Derived.Lib.ConvBytes
import Derived.Laws.Slices
import Derived.WalkKit
import Derived.KernelRfl
import Derived.RowKit3
import Derived.Deep.LoopGhost
import Derived.Deep.QuietTactic
import Derived.BigQuiet
import Derived.WideLaws
import Derived.Deep.DeepCutAuto
import Derived.Deep.CutBlock
import Derived.Deep.RegionHeld3
import Derived.Laws.Rows
import Derived.Lib.AppendStr
import Derived.ArgAppend
import Derived.Laws.IdiomCopy
import Derived.OrdersHeld
import Derived.Laws.BitsLemmas
import Derived.RowKit
import Derived.StillTailTactics
import Derived.Test.YtpjkhecefppamaaDoorWWords
import Derived.Test.YtpjkhecefppamaaDoorWLast
import Derived.Test.YtpjkhecefppamaaDoorWMore
import Derived.Lib.Hide
import Derived.Deep.RegionLaw
import Derived.Deep.RegionLawGrows
import Derived.Test.YtpjkhecefppamaaDoorArrays
import Derived.Outline
import Derived.Deep.MidRow
import Derived.Deep.WholeRow
import Derived.Test.YtpjkhecefppamaaDoorShaA
import Derived.Deep.DrawnRows
import Derived.Laws.Tables
/- A string turned into bytes: what the new memory reads as. -/
namespace Go.Proofs.YtpjkhecefppamaaDoor.Hand
open Go Go.RowKit Go.Proofs.YtpjkhecefppamaaDoorW.PrintWords Go.Proofs.YtpjkhecefppamaaDoorW.PrintLast Go.Proofs.YtpjkhecefppamaaDoorW.PrintMore
set_option linter.unusedVariables false
theorem bytesOf_str {xs : List Int} (hb : ∀ x ∈ xs, 0 ≤ x ∧ x < 256) : bytesOf (strOfNums xs) = xs := by
  unfold bytesOf
  rw [strOfNums_data]
  apply List.ext_getElem (by simp)
  intro i h1 h2
  have := hb xs[i] (List.getElem_mem _)
  simp only [List.getElem_map, UInt8.toNat_ofNat']
  omega
theorem str_of_bytesOf (s : ByteArray) : strOfNums (bytesOf s) = s := by
  apply ByteArray.ext
  apply Array.toList_inj.1
  rw [strOfNums_data]
  unfold bytesOf
  apply List.ext_getElem (by simp)
  intro i h1 h2
  simp
theorem bytesOf_bytes (s : ByteArray) : ∀ x ∈ bytesOf s, 0 ≤ x ∧ x < 256 := by
  intro x hx
  simp only [bytesOf, List.mem_map] at hx
  obtain ⟨b, _, rfl⟩ := hx
  have := b.toNat_lt
  omega
theorem bytesW_C (W : World) {xs : List Int} (hb : ∀ x ∈ xs, 0 ≤ x ∧ x < 256) (hl : xs.length ≤ 9223372036854775807) : Kd.C (Kd.int .u8) (Lib.bytesWorld W 5 (strOfNums xs)) (some ⟨W.heap.size, 0, none⟩) xs.length xs := by
  have h := bytes_reads W 5 (strOfNums xs) (by rw [strOfNums_size]; exact hl)
  rw [bytesOf_str hb, strOfNums_size] at h
  exact Kd.C_of_reads (enc := Value.int .u8) (d := 0) h
theorem bytesW_below (W : World) (s : ByteArray) : Below W.heap.size W (Lib.bytesWorld W 5 s) := bytes_below (Below.refl _ _) (Nat.le_refl _) _ _
end Go.Proofs.YtpjkhecefppamaaDoor.Hand

/- An append of one number to a row of the call's own, in a region that draws: what the row held stays where it was. -/
namespace Go.Proofs.YtpjkhecefppamaaDoor.Hand
open Go Go.RowKit Go.Proofs.YtpjkhecefppamaaDoorW.PrintWords Go.Proofs.YtpjkhecefppamaaDoorW.PrintLast Go.Proofs.YtpjkhecefppamaaDoorW.PrintMore
set_option linter.unusedVariables false
set_option linter.unusedSimpArgs false
theorem cell_add {g o j : Nat} : ((⟨g, o, none⟩ : Addr).add j) = ⟨g, o + j, none⟩ := by
  unfold Addr.add
  split <;> simp_all
theorem R_at {k : IntKind} {e g n cap base : Nat} {ok : Nat → Prop} {w : World} {xs : List Int} (h : Kd.R (Kd.int k) e w base ok (.slice (some ⟨g, 0, none⟩) n cap) xs) {j : Nat} (hj : j < xs.length) : w.cell? ⟨g, j, none⟩ = some (.int k (rd xs (j : Int))) := by
  obtain ⟨hn, hc, hC⟩ := Kd.R_reads' h
  obtain ⟨ad, e, hcell⟩ := C_cells hC (by omega)
  injection e with e
  subst e
  have := hcell j (.int k (rd xs (j : Int))) (by simp [nums, rd, hj])
  rw [cell_add, Nat.zero_add] at this
  exact this
theorem R_push_keep {P : Program} {ops : Array Oper} {o : Oper} {a : Act} {Kc : Act → World → Prop} {Q : Exit → Act → World → Prop} {E : Prop} {k : IntKind} {w0 W : World} (base : Nat) (hg : o.guard = none) (s x : Operand) (t e : TypeId) (i : TypeInfo) (z : Value) (bytes : Nat)
    (ho : o.op = .call { callee := .builtin .append, args := #[s, x], argTypes := #[t, t] })
    (ht : P.underlying t = some (.slice e)) (hi : P.info? e = some i) (hz : i.zero = some z) (hs1 : i.size = 1) (hby : i.bytes = bytes) (hzs : z.cells.size = 1)
    (g n cap : Nat) (xs : List Int) (p : Int) (hs : a.eval s = .slice (some ⟨g, 0, none⟩) n cap) (hx : a.eval x = .slice (some ⟨W.heap.size, 0, none⟩) 1 1)
    (HO : (Kd.int k).R e W base (fun _ => True) (.slice (some ⟨g, 0, none⟩) n cap) xs) (HB : Below base w0 W) (hbase : base ≤ W.heap.size) (hl : (n + 1) * bytes ≤ 140737488355328) (hl2 : n + 1 ≤ 1000000)
    (h : ∀ v1 w1, (Kd.int k).R e w1 base (fun _ => True) v1 (xs ++ [p]) → Below base w0 w1 → (∀ j, j < n → w1.cell? ⟨g, j, none⟩ = W.cell? ⟨g, j, none⟩) → Kc (a.put o.dst v1) w1) :
    if Region.wanted o (yielded ops a.tmps) = true then Oper.wp P o a (W.alloc (.cells #[.int k p] e)) Kc Q else E := by
  have hown := Kd.own_of_R HO
  have hn : n = xs.length := (Kd.R_reads' HO).1
  have hcap : n ≤ cap := (Kd.R_reads' HO).2.1
  obtain ⟨hxl, hform⟩ := hown
  have hgl : g < W.heap.size := Kd.R_lt HO g rfl
  have hgb : base ≤ g := Kd.R_base HO g rfl
  obtain ⟨g', cap', cur, he, hbg, hgc, hnc, hcm, hcs, htake⟩ := hform.resolve_left (by rintro ⟨h1, _⟩; cases h1)
  injection he with h1 h2 h3
  injection h1 with h1
  injection h1 with h1
  subst h1
  subst h3
  have hWg : (W.alloc (.cells #[.int k p] e)).heap[g]? = some (.cells cur e (0, 0)) := blk_alloc hgc _
  have hnew : (W.alloc (.cells #[.int k p] e)).heap[W.heap.size]? = some (.cells #[.int k p] e (0, 0)) := by simpa using heap_alloc_new W _
  have hnews : ∀ j u, [Value.int k p][j]? = some u → (W.alloc (.cells #[.int k p] e)).cell? ((⟨W.heap.size, 0, none⟩ : Addr).add j) = some u := by
    intro j u hj
    rw [cell_add, Nat.zero_add]
    refine (blk_cell hnew j).trans ?_
    simpa using hj
  have hone : ∀ u ∈ [Value.int k p], u.oneCell' = true := by simp [Value.oneCell']
  have HBa : Below base w0 (W.alloc (.cells #[.int k p] e)) := HB.alloc hbase _
  have hkeepa : ∀ j, j < n → (W.alloc (.cells #[.int k p] e)).cell? ⟨g, j, none⟩ = W.cell? ⟨g, j, none⟩ := fun j _ => by
    rw [blk_cell hWg, blk_cell hgc]
  by_cases hroom : n + 1 ≤ cap
  · refine step_append_room hg s x t ho e i 1 ht hi hs1 g 0 n cap hs ⟨W.heap.size, 0, none⟩ 1 1 [.int k p] hx rfl hnews hone hroom ?_ ?_
    · intro j hj
      have hj0 : j = 0 := by simpa using hj
      subst hj0
      refine ⟨?_, blk_frozen hWg _⟩
      have h5 : (0 + n * 1 + 0 : Nat) < cur.size := by omega
      rw [blk_cell hWg, Array.getElem?_eq_getElem h5]
      rfl
    · show Kc (a.put o.dst (.slice (some ⟨g, 0, none⟩) (n + 1) cap)) ((W.alloc (.cells #[.int k p] e)).setCell ⟨g, 0 + n * 1, none⟩ (.int k p))
      rw [show 0 + n * 1 = n by omega]
      have hset := blk_set hWg n (.int k p)
      refine h _ _ (Kd.R_of_own ⟨by simp [encs], .inr ⟨g, cap, _, by simp [hn], hbg, hset, by simp; omega, hcm, by simp; omega, ?_⟩⟩ (fun _ _ => trivial)) (HBa.setCell (p := ⟨g, n, none⟩) hgb _) (fun j hj => ?_)
      · have hcl : n < cur.toList.length := by simp; omega
        have hlen : (xs ++ [p]).length * 1 = n + 1 := by simp; omega
        have ht2 : cur.toList.take n = encs (Value.int k) xs := by rw [← htake]; congr 1; omega
        rw [hlen, Array.toList_setIfInBounds, List.take_succ_eq_append_getElem (by simpa using hcl)]
        simp [encs_append, ht2, encs, List.take_set_of_le]
      · have : (cur.setIfInBounds n (.int k p))[j]? = cur[j]? := by
          rw [Array.getElem?_setIfInBounds]
          simp [show n ≠ j by omega]
        rw [blk_cell hset, this, blk_cell hgc]
  · refine step_append_grows hg s x t ho e i z 1 bytes ht hi hz hs1 hby hzs (by decide) (some ⟨g, 0, none⟩) n cap (encs (Value.int k) xs) hs (by rintro ⟨⟩) (by simp [encs, hn]) ?_ ⟨W.heap.size, 0, none⟩ 1 1 [.int k p] hx rfl hnews hone (by omega) (by simp only [maxLen]; omega) hl ?_
    · rintro b ⟨⟩ j u hu
      rw [cell_add, Nat.zero_add]
      refine (blk_cell hWg j).trans ?_
      rw [← htake] at hu
      have h3 : cur.toList[j]? = some u := by
        rw [List.getElem?_take] at hu
        split at hu
        · exact hu
        · cases hu
      simpa using h3
    · intro v' w' hown' hgr
      refine h _ _ (Kd.R_lower (Kd.R_of_own ?_ (fun _ _ => trivial)) (show base ≤ (W.alloc (.cells #[.int k p] e)).heap.size by rw [World.size_alloc]; omega)) (HBa.grown hgr (by rw [World.size_alloc]; omega) (by rintro k ⟨⟩)) (fun j hj => ?_)
      · rw [encs_append]
        have : (xs ++ [p]).length = n + 1 := by simp; omega
        rw [this]
        exact hown'
      · rw [World.cell?_of_block (w := W.alloc (.cells #[.int k p] e)) (hgr.block g (by rw [World.size_alloc]; omega) (by simp))]
        exact hkeepa j hj
end Go.Proofs.YtpjkhecefppamaaDoor.Hand

/- Bytes of the call's own, the row of a converted string too: appended to, byte by byte. -/
namespace Go.Proofs.YtpjkhecefppamaaDoor.Hand
open Go Go.RowKit Go.Proofs.YtpjkhecefppamaaDoorW.PrintWords Go.Proofs.YtpjkhecefppamaaDoorW.PrintLast Go.Proofs.YtpjkhecefppamaaDoorW.PrintMore
set_option linter.unusedVariables false
set_option linter.unusedSimpArgs false
theorem C_of_cells {w : World} {g o : Nat} {k : IntKind} {ys : List Int} (h : ∀ j : Nat, j < ys.length → w.cell? ⟨g, o + j, none⟩ = some (.int k (rd ys (j : Int)))) (hl : ys.length ≤ 9223372036854775807) : Kd.C (Kd.int k) w (some ⟨g, o, none⟩) ys.length ys := by
  refine ⟨rfl, hl, fun _ => ⟨⟨g, o, none⟩, rfl, fun j p hj => ⟨[.int k p], rfl, rfl, fun i u hu => ?_⟩⟩⟩
  have hjl := (List.getElem?_eq_some_iff.1 hj).1
  cases i with
  | succ i => simp at hu
  | zero =>
    have : u = .int k p := by simpa using hu.symm
    subst this
    show w.cell? ((⟨g, o, none⟩ : Addr).add (j * 1 + 0)) = _
    rw [cell_add, show o + (j * 1 + 0) = o + j by omega, h j hjl]
    have : rd ys (j : Int) = p := by
      unfold rd
      rw [Int.toNat_natCast, List.getD_eq_getElem?_getD, hj]
      rfl
    rw [this]
def OwnB (w : World) (base : Nat) (v : Value) (xs : List Int) : Prop := ∃ g cap cur lo hi, v = .slice (some ⟨g, 0, none⟩) xs.length cap ∧ base ≤ g ∧ w.heap[g]? = some (.cells cur 5 (lo, hi)) ∧ (hi = 0 ∨ cap ≤ lo) ∧ xs.length ≤ cap ∧ cap ≤ cur.size ∧ ∀ j : Nat, j < xs.length → cur[j]? = some (.int .u8 (rd xs (j : Int)))
theorem cell_fr {w : World} {g : Nat} {t : TypeId} {cs : Array Value} {fr : Nat × Nat} (h : w.heap[g]? = some (.cells cs t fr)) (i : Nat) : w.cell? ⟨g, i, none⟩ = cs[i]? := cell_of_row w g i cs t fr h
theorem set_fr {w : World} {g : Nat} {t : TypeId} {cs : Array Value} {fr : Nat × Nat} (h : w.heap[g]? = some (.cells cs t fr)) (i : Nat) (u : Value) : (w.setCell ⟨g, i, none⟩ u).heap[g]? = some (.cells (cs.setIfInBounds i u) t fr) := by
  simp [World.setCell, Array.getElem?_modify, h]
theorem OwnB.keep {w w' : World} {base : Nat} {v : Value} {xs : List Int} (h : OwnB w base v xs) (hb : Below w.heap.size w w') : OwnB w' base v xs := by
  obtain ⟨g, cap, cur, lo, hi, h1, h2, h3, h4⟩ := h
  exact ⟨g, cap, cur, lo, hi, h1, h2, (hb.block g (blk_lt h3)).trans h3, h4⟩
theorem OwnB.reads {w : World} {base : Nat} {v : Value} {xs : List Int} (h : OwnB w base v xs) (hl : xs.length ≤ 1000000) : ∃ A c, v = .slice A xs.length c ∧ xs.length ≤ c ∧ Kd.C (Kd.int .u8) w A xs.length xs := by
  obtain ⟨g, cap, cur, lo, hi, h1, h2, h3, h4, h5, h6, h7⟩ := h
  exact ⟨_, cap, h1, h5, C_of_cells (fun j hj => by rw [Nat.zero_add, cell_fr h3]; exact h7 j hj) (by omega)⟩
theorem ownB_of_bytes (W : World) {xs : List Int} (hb : ∀ x ∈ xs, 0 ≤ x ∧ x < 256) (hl : xs.length ≤ 1000000) : OwnB (Lib.bytesWorld W 5 (strOfNums xs)) W.heap.size (.slice (some ⟨W.heap.size, 0, none⟩) (strOfNums xs).size (grownCap W (strOfNums xs).size 0 5)) xs := by
  have hge := grownCap_ge W (strOfNums xs).size 0 5
  have hs := strOfNums_size xs
  have hsz : (Lib.bytesCells W 5 (strOfNums xs)).size = grownCap W (strOfNums xs).size 0 5 := by
    unfold Lib.bytesCells
    have : (strOfNums xs).data.size = xs.length := hs
    simp [this]
    omega
  refine ⟨W.heap.size, grownCap W (strOfNums xs).size 0 5, _, _, _, congrArg (fun n => Value.slice (some ⟨W.heap.size, 0, none⟩) n (grownCap W (strOfNums xs).size 0 5)) hs, Nat.le_refl _, Lib.bytesWorld_at_new W 5 (strOfNums xs), .inr (by rw [hsz]; omega), by omega, by rw [hsz]; omega, fun j hj => ?_⟩
  have hC := bytesW_C W hb (by omega)
  obtain ⟨ad, e, hc⟩ := C_cells hC (by omega)
  injection e with e
  subst e
  have h1 := hc j (.int .u8 (rd xs (j : Int))) (by simp [nums, rd, hj])
  rw [cell_add, Nat.zero_add, cell_fr (Lib.bytesWorld_at_new W 5 (strOfNums xs))] at h1
  exact h1
theorem info5' : (Tryd.prog.info? 5).map (fun i => (i.zero, i.size, i.bytes)) = some (some (.int .u8 0), 1, 1) := by kernel_rfl
theorem ownB_push {ops : Array Oper} {rest : List Oper} {o : Oper} {a : Act} {Q : Exit → Act → World → Prop} {w0 W : World} (base : Nat) (hg : o.guard = none) (s x : Operand)
    (ho : o.op = .call { callee := .builtin .append, args := #[s, x], argTypes := #[28, 28] })
    (v : Value) (xs : List Int) (p : Int) (hs : a.eval s = v) (hx : a.eval x = .slice (some ⟨W.heap.size, 0, none⟩) 1 1)
    (HO : OwnB W base v xs) (HB : Below base w0 W) (hbase : base ≤ W.heap.size) (hl : xs.length ≤ 900000)
    (h : ∀ v1 w1, OwnB w1 base v1 (xs ++ [p]) → Below base w0 w1 → wpList Tryd.prog ops Q rest (a.put o.dst v1) w1) :
    wpList Tryd.prog ops Q (o :: rest) a (W.alloc (.cells #[.int .u8 p] 5)) := by
  refine wpList_plain hg fun K hK => ?_
  obtain ⟨g, cap, cur, lo, hi, rfl, hgb, hgc, hfr, hcap, hcs, hcells⟩ := HO
  obtain ⟨I, hI, hzz⟩ := Option.map_eq_some_iff.1 info5'
  simp only [Prod.mk.injEq] at hzz
  have hw : Region.wanted o (yielded ops a.tmps) = true := by simp [Region.wanted, hg]
  have hgl : g < W.heap.size := blk_lt hgc
  have hWg : (W.alloc (.cells #[.int .u8 p] 5)).heap[g]? = some (.cells cur 5 (lo, hi)) := ((below_alloc (Below.refl _ W) (.cells #[.int .u8 p] 5)).block g hgl).trans hgc
  have hnew : (W.alloc (.cells #[.int .u8 p] 5)).heap[W.heap.size]? = some (.cells #[.int .u8 p] 5 (0, 0)) := by simpa using heap_alloc_new W _
  have hnews : ∀ j u, [Value.int .u8 p][j]? = some u → (W.alloc (.cells #[.int .u8 p] 5)).cell? ((⟨W.heap.size, 0, none⟩ : Addr).add j) = some u := by
    intro j u hj
    rw [cell_add, Nat.zero_add]
    refine (blk_cell hnew j).trans ?_
    simpa using hj
  have hone : ∀ u ∈ [Value.int .u8 p], u.oneCell' = true := by simp [Value.oneCell']
  have HBa : Below base w0 (W.alloc (.cells #[.int .u8 p] 5)) := HB.alloc hbase _
  have hlen : (xs ++ [p]).length = xs.length + 1 := by simp
  have hrd : ∀ j : Nat, j < xs.length → rd (xs ++ [p]) (j : Int) = rd xs (j : Int) := fun j hj => by simp [rd, List.getElem?_append_left hj]
  have hrd2 : rd (xs ++ [p]) (xs.length : Int) = p := by simp [rd]
  by_cases hroom : xs.length + 1 ≤ cap
  · have hst := step_append_room (P := Tryd.prog) (ops := ops) (o := o) (a := a) (K := K) (Q := Q) (E := True) hg s x 28 ho 5 I 1 Tryd.underlying28 hI hzz.2.1 g 0 xs.length cap hs ⟨W.heap.size, 0, none⟩ 1 1 [.int .u8 p] hx rfl hnews hone hroom (fun j hj => by
        have hj0 : j = 0 := by simpa using hj
        subst hj0
        have h5 : (0 + xs.length * 1 + 0 : Nat) < cur.size := by omega
        refine ⟨by rw [cell_fr hWg, Array.getElem?_eq_getElem h5]; rfl, ?_⟩
        simp only [World.frozen?, hWg]
        rcases hfr with rfl | hlo
        · simp
        · simp
          omega) ?_
    · rw [if_pos hw] at hst
      exact hst
    · show K (a.put o.dst (.slice (some ⟨g, 0, none⟩) (xs.length + 1) cap)) ((W.alloc (.cells #[.int .u8 p] 5)).setCell ⟨g, 0 + xs.length * 1, none⟩ (.int .u8 p))
      rw [show 0 + xs.length * 1 = xs.length by omega]
      refine hK _ _ (h _ _ ⟨g, cap, _, lo, hi, by rw [hlen], hgb, set_fr hWg xs.length (.int .u8 p), hfr, by omega, by simp; omega, fun j hj => ?_⟩ (HBa.setCell (p := ⟨g, xs.length, none⟩) hgb _))
      rw [Array.getElem?_setIfInBounds]
      by_cases hjn : xs.length = j
      · subst hjn
        have h8 : xs.length < cur.size := by omega
        simp [h8, hrd2]
      · rw [if_neg hjn, hrd j (by omega)]
        exact hcells j (by omega)
  · have hst := step_append_grows (P := Tryd.prog) (ops := ops) (o := o) (a := a) (K := K) (Q := Q) (E := True) hg s x 28 ho 5 I (.int .u8 0) 1 1 Tryd.underlying28 hI hzz.1 hzz.2.1 hzz.2.2 rfl (by decide) (some ⟨g, 0, none⟩) xs.length cap (nums .u8 xs) hs (by rintro ⟨⟩) (by simp [nums]) (by
        rintro b ⟨⟩ j u hu
        have hjl : j < xs.length := by
          have := (List.getElem?_eq_some_iff.1 hu).1
          simpa [nums] using this
        rw [cell_add, Nat.zero_add, cell_fr hWg, hcells j hjl, ← hu]
        simp [nums, rd, hjl]) ⟨W.heap.size, 0, none⟩ 1 1 [.int .u8 p] hx rfl hnews hone (by omega) (by simp only [maxLen]; omega) (by omega) ?_
    · rw [if_pos hw] at hst
      exact hst
    · intro v' w' hown' hgr
      obtain ⟨hxl, hform⟩ := hown'
      obtain ⟨g', cap', cur', rfl, hbg, hgc', hnc, hcm, hcs', htake⟩ := hform.resolve_left (by rintro ⟨_, h2⟩; omega)
      refine hK _ _ (h _ _ ⟨g', cap', cur', 0, 0, by rw [hlen], ?_, hgc', .inl rfl, by omega, by omega, fun j hj => ?_⟩ (HBa.grown hgr (by rw [World.size_alloc]; omega) (by rintro k ⟨⟩)))
      · rw [World.size_alloc] at hbg
        omega
      · have h9 : (nums .u8 xs ++ [Value.int .u8 p])[j]? = some (.int .u8 (rd (xs ++ [p]) (j : Int))) := by
          rw [show nums .u8 xs ++ [Value.int .u8 p] = nums .u8 (xs ++ [p]) by simp [nums]]
          unfold nums rd
          rw [List.getElem?_map, List.getElem?_eq_getElem hj, Int.toNat_natCast, List.getD_eq_getElem?_getD, List.getElem?_eq_getElem hj]
          rfl
        rw [← htake, List.getElem?_take_of_lt (by omega)] at h9
        simpa using h9
end Go.Proofs.YtpjkhecefppamaaDoor.Hand

/- The document's step of a block: walked. -/
namespace Go.Proofs.YtpjkhecefppamaaDoor.Hand
open Go Go.RowKit Go.Proofs.YtpjkhecefppamaaDoor.Plain Go.Proofs.YtpjkhecefppamaaDoor.PAll Go.Proofs.YtpjkhecefppamaaDoorW.PrintWords Go.Proofs.YtpjkhecefppamaaDoorW.PrintLast Go.Proofs.YtpjkhecefppamaaDoorW.PrintMore
set_option linter.unusedVariables false
set_option linter.unusedSimpArgs false
set_option maxRecDepth 100000
theorem rrI_step {x : Int} (h : Wd x) {k : Nat} (hk : k < 32) : (rrI x k / 2 + (rrI x k % 2 * 2147483648) % 4294967296) % 4294967296 = rrI x (k + 1) := by
  have h0 := rr_step (x := x.toNat) (i := k) (by have := h.2; have := h.1; show x.toNat < 4294967296; omega) hk
  have h2 := (rrI_wd h (k + 1)).2
  unfold rrI at h2 ⊢
  omega
theorem rrI_0 {x : Int} (h : Wd x) : rrI x 0 = x := by
  have h0 : rr x.toNat 0 = x.toNat := by
    have h1 : x.toNat < 2 ^ 32 := by have := h.2; have := h.1; show x.toNat < 4294967296; omega
    have h2 := rot_lt (N := 32) (s := 32) (by omega) h1
    unfold rr rot
    simp
    omega
  unfold rrI
  rw [h0]
  have := h.1
  omega
set_option maxHeartbeats 1000000 in
set_option maxRecDepth 100000 in
theorem right_calls (x : Int) (n : Nat) (w : World) (hx : Wd x) (hn : n ≤ 32) :
    Calls Tryd.prog 45 #[.int .u32 x, .int .i64 (n : Int)] w fun e w' => e = .returned (.int .u32 (rrI x n)) ∧ w' = w := by
  have h0 := rrI_0 hx
  have HX := Lib.hid hx
  have H0 := Lib.hid h0
  clear h0 hx
  go_enter Tryd.func45, Tryd.ntmps45
  go_wp2_with fail
  go_loop [0, 5] (fun y i => ∃ k : Nat, k ≤ n ∧ i = .int .i64 (k : Int) ∧ y = .int .u32 (rrI x k)) (fun _ i => (n - (intOf i).toNat))
  case atStart => exact ⟨0, by omega, rfl, by rw [H0.out]⟩
  case round =>
    obtain ⟨k, hk, rfl, rfl⟩ := hrel
    have hw := rrI_wd HX.out k
    have hst : k < n → (rrI x k / 2 + (rrI x k % 2 * 2147483648) % 4294967296) % 4294967296 = rrI x (k + 1) := fun h => rrI_step HX.out (by omega)
    have HST := Lib.hid hst
    clear hst
    obtain ⟨y, hy⟩ : ∃ y, rrI x k = y := ⟨_, rfl⟩
    rw [hy] at hw HST ⊢
    have HY := Lib.hid hy
    have hy0 := hw.1
    have hy1 := hw.2
    clear hy hw
    by_cases hlt : k < n
    · go_wp2_with fail
      go_round
      case rel =>
        refine ⟨k + 1, by omega, by go_num, congrArg (Value.int .u32) ?_⟩
        rw [← HST.out hlt]
        omega
      case measure => simp only [intOf]; omega
    · obtain rfl : k = n := by omega
      go_wp2_with fail
      go_ret
      exact ⟨by rw [HY.out]; rfl, rfl⟩
def kParts : Array (Nat × Value) := #[(0, .int .u32 1116352408), (1, .int .u32 1899447441), (2, .int .u32 3049323471), (3, .int .u32 3921009573), (4, .int .u32 961987163), (5, .int .u32 1508970993), (6, .int .u32 2453635748), (7, .int .u32 2870763221), (8, .int .u32 3624381080), (9, .int .u32 310598401), (10, .int .u32 607225278), (11, .int .u32 1426881987), (12, .int .u32 1925078388), (13, .int .u32 2162078206), (14, .int .u32 2614888103), (15, .int .u32 3248222580), (16, .int .u32 3835390401), (17, .int .u32 4022224774), (18, .int .u32 264347078), (19, .int .u32 604807628), (20, .int .u32 770255983), (21, .int .u32 1249150122), (22, .int .u32 1555081692), (23, .int .u32 1996064986), (24, .int .u32 2554220882), (25, .int .u32 2821834349), (26, .int .u32 2952996808), (27, .int .u32 3210313671), (28, .int .u32 3336571891), (29, .int .u32 3584528711), (30, .int .u32 113926993), (31, .int .u32 338241895), (32, .int .u32 666307205), (33, .int .u32 773529912), (34, .int .u32 1294757372), (35, .int .u32 1396182291), (36, .int .u32 1695183700), (37, .int .u32 1986661051), (38, .int .u32 2177026350), (39, .int .u32 2456956037), (40, .int .u32 2730485921), (41, .int .u32 2820302411), (42, .int .u32 3259730800), (43, .int .u32 3345764771), (44, .int .u32 3516065817), (45, .int .u32 3600352804), (46, .int .u32 4094571909), (47, .int .u32 275423344), (48, .int .u32 430227734), (49, .int .u32 506948616), (50, .int .u32 659060556), (51, .int .u32 883997877), (52, .int .u32 958139571), (53, .int .u32 1322822218), (54, .int .u32 1537002063), (55, .int .u32 1747873779), (56, .int .u32 1955562222), (57, .int .u32 2024104815), (58, .int .u32 2227730452), (59, .int .u32 2361852424), (60, .int .u32 2428436474), (61, .int .u32 2756734187), (62, .int .u32 3204031479), (63, .int .u32 3329325298)]
set_option maxRecDepth 100000 in
theorem kT_built : Tryd.prog.built 88 kParts.toList = some (nums .u32 kT).toArray := by kernel_rfl
set_option maxHeartbeats 1000000 in
set_option maxRecDepth 100000 in
theorem K_calls (w : World) :
    Calls Tryd.prog 46 #[] w fun e w' => e = .returned (.agg (nums .u32 kT).toArray) ∧ Below w.heap.size w w' := by
  have hz := (zero_of_info infoW).1
  obtain ⟨Z, hZ⟩ : ∃ Z, (row64 []).toArray = Z := ⟨_, rfl⟩
  rw [hZ] at hz
  obtain ⟨V, hV⟩ : ∃ V, (nums .u32 kT).toArray = V := ⟨_, rfl⟩
  have HB := Lib.hid kT_built
  rw [hV] at HB ⊢
  have HS := Lib.hid (show (Tryd.prog.info? 88).map (·.size) = some V.size ∧ Z.size = V.size ∧ V.all (·.oneCell') = true by
    rw [← hV, ← hZ, (zero_of_info infoW).2]
    refine ⟨by simp [nums, kT], by simp [nums, kT, row64_len], all_oneCell_toArray (nums_one .u32 kT)⟩)
  clear hZ hV
  go_enter Tryd.func46, Tryd.ntmps46
  go_wp2_with (first | ((with_reducible show wpList _ _ _ (Oper.mk _ (Op.build _ _) _ _ _ _ :: _) _ _); (go_loud (refine wpl_build rfl 88 _ rfl kParts (by unfold kParts; simp [Act.eval]) V HB.out ?_))) | ((with_reducible show wpList _ _ _ (Oper.mk _ (Op.store _ _ _) _ _ _ _ :: _) _ _); (go_loud (refine wpl_store_new rfl 88 (.tmp 0) (.tmp 1) rfl Z V rfl rfl HS.out.1 HS.out.2.1 HS.out.2.2 ?_))))
  exact bodyPost_ret (results_cell_row rfl _ _ w.heap.size 88 V (0, 0) _ rfl (heap_alloc_new w _) Tryd.underlying88 rfl HS.out.1) rfl ⟨rfl, below_alloc (Below.refl _ _) _⟩
end Go.Proofs.YtpjkhecefppamaaDoor.Hand

/- The document's step of a block: the function itself. -/
namespace Go.Proofs.YtpjkhecefppamaaDoor.Hand
open Go Go.RowKit Go.Proofs.YtpjkhecefppamaaDoor.Plain Go.Proofs.YtpjkhecefppamaaDoor.PAll Go.Proofs.YtpjkhecefppamaaDoorW.PrintWords Go.Proofs.YtpjkhecefppamaaDoorW.PrintLast Go.Proofs.YtpjkhecefppamaaDoorW.PrintMore
set_option linter.unusedVariables false
set_option linter.unusedSimpArgs false
set_option maxRecDepth 100000
theorem info32 : (Tryd.prog.info? 79).map (fun i => (i.zero, i.size, i.bytes)) = some (some (.int .u32 0), 1, 4) := by kernel_rfl
theorem first16_get (bs : List Int) (k : Nat) (hk : k < 16) : (first16 bs).take (k + 1) = (first16 bs).take k ++ [big4 bs k] := take16_step bs k hk
theorem mix_8' (s v : St) : arrF (mixF v s 8) = s8 ⟨add32 s.a v.a, add32 s.b v.b, add32 s.c v.c, add32 s.d v.d, add32 s.e v.e, add32 s.f v.f, add32 s.g v.g, add32 s.h v.h⟩ := by
  have h : ∀ a b, add32 a b = add32 b a := fun a b => by unfold add32; rw [Int.add_comm]
  rw [h s.a, h s.b, h s.c, h s.d, h s.e, h s.f, h s.g, h s.h]
  rfl
theorem set8 {w : World} {b : Nat} {t : TypeId} {sa sb sc sd se sf sg sh : Int} (h : w.heap[b]? = some (.cells (s8 ⟨sa, sb, sc, sd, se, sf, sg, sh⟩) t (0, 0))) (N E : Int) :
    ((((((((w.setCell ⟨b, 7, none⟩ (.int .u32 sg)).setCell ⟨b, 6, none⟩ (.int .u32 sf)).setCell ⟨b, 5, none⟩ (.int .u32 se)).setCell ⟨b, 4, none⟩ (.int .u32 E)).setCell ⟨b, 3, none⟩ (.int .u32 sc)).setCell ⟨b, 2, none⟩ (.int .u32 sb)).setCell ⟨b, 1, none⟩ (.int .u32 sa)).setCell ⟨b, 0, none⟩ (.int .u32 N)).heap[b]? = some (.cells (s8 ⟨N, sa, sb, sc, E, se, sf, sg⟩) t (0, 0)) := by
  have h1 := blk_set h 7 (.int .u32 sg)
  have h2 := blk_set h1 6 (.int .u32 sf)
  have h3 := blk_set h2 5 (.int .u32 se)
  have h4 := blk_set h3 4 (.int .u32 E)
  have h5 := blk_set h4 3 (.int .u32 sc)
  have h6 := blk_set h5 2 (.int .u32 sb)
  have h7 := blk_set h6 1 (.int .u32 sa)
  have h8 := blk_set h7 0 (.int .u32 N)
  refine h8.trans ?_
  simp only [s8, List.setIfInBounds_toArray, List.set_cons_zero, List.set_cons_succ]
theorem far8 {w : World} {b k : Nat} {sa sb sc se sf sg N E : Int} (h : k ≠ b) : ((((((((w.setCell ⟨b, 7, none⟩ (.int .u32 sg)).setCell ⟨b, 6, none⟩ (.int .u32 sf)).setCell ⟨b, 5, none⟩ (.int .u32 se)).setCell ⟨b, 4, none⟩ (.int .u32 E)).setCell ⟨b, 3, none⟩ (.int .u32 sc)).setCell ⟨b, 2, none⟩ (.int .u32 sb)).setCell ⟨b, 1, none⟩ (.int .u32 sa)).setCell ⟨b, 0, none⟩ (.int .u32 N)).heap[k]? = w.heap[k]? :=
  (Below.heap_setCell _ ⟨b, 0, none⟩ _ k h).trans ((Below.heap_setCell _ ⟨b, 1, none⟩ _ k h).trans ((Below.heap_setCell _ ⟨b, 2, none⟩ _ k h).trans ((Below.heap_setCell _ ⟨b, 3, none⟩ _ k h).trans ((Below.heap_setCell _ ⟨b, 4, none⟩ _ k h).trans ((Below.heap_setCell _ ⟨b, 5, none⟩ _ k h).trans ((Below.heap_setCell _ ⟨b, 6, none⟩ _ k h).trans (Below.heap_setCell _ ⟨b, 7, none⟩ _ k h)))))))
theorem below8 {w w0 : World} {b B : Nat} {sa sb sc se sf sg N E : Int} (hb : Below B w0 w) (h : B ≤ b) : Below B w0 ((((((((w.setCell ⟨b, 7, none⟩ (.int .u32 sg)).setCell ⟨b, 6, none⟩ (.int .u32 sf)).setCell ⟨b, 5, none⟩ (.int .u32 se)).setCell ⟨b, 4, none⟩ (.int .u32 E)).setCell ⟨b, 3, none⟩ (.int .u32 sc)).setCell ⟨b, 2, none⟩ (.int .u32 sb)).setCell ⟨b, 1, none⟩ (.int .u32 sa)).setCell ⟨b, 0, none⟩ (.int .u32 N)) :=
  ((((((((hb.setCell (p := ⟨b, 7, none⟩) h _).setCell (p := ⟨b, 6, none⟩) h _).setCell (p := ⟨b, 5, none⟩) h _).setCell (p := ⟨b, 4, none⟩) h _).setCell (p := ⟨b, 3, none⟩) h _).setCell (p := ⟨b, 2, none⟩) h _).setCell (p := ⟨b, 1, none⟩) h _).setCell (p := ⟨b, 0, none⟩) h _)
theorem first16_len (bs : List Int) : (first16 bs).length = 16 := by simp [first16]
attribute [local go_sem ↓] Go.wp_at_zero Go.wp_at_succ
set_option maxHeartbeats 4000000 in
set_option maxRecDepth 100000 in
theorem step_calls (s : St) (A : Option Addr) (c : Nat) (bs : List Int) (w : World) (hs : s.wd) (hr : Kd.C (Kd.int .u8) w A 64 bs) (hc : 64 ≤ c) (hl : bs.length = 64) (hby : ∀ x ∈ bs, 0 ≤ x ∧ x < 256) :
    Calls Tryd.prog 41 #[.agg (s8 s), .slice A 64 c] w fun e w' => e = .returned (.agg (s8 (stepS s bs))) ∧ Below w.heap.size w w' := by
  have HS := Lib.hid hs
  have HL := Lib.hid hl
  have HBY := Lib.hid hby
  have hz8 := (zero_of_info info8).1
  have hz := (zero_of_info infoW).1
  obtain ⟨ad, hA, hcell⟩ := C_cells (k := .u8) (ys := bs) (by rw [hl]; exact hr) (by omega)
  subst hA
  have hadlt : ad.block < w.heap.size := by
    have h0 := hcell 0 (.int .u8 (rd bs 0)) (by simp [nums, rd, hl])
    have := block_lt_of_cell h0
    simpa [Addr.add] using this
  have HAD := Lib.hid hadlt
  have HCE := Lib.hid (show ∀ j : Nat, j < 64 → w.cell? (ad.add j) = some (.int .u8 (rd bs (j : Int))) from fun j hj => hcell j _ (by simp [nums, rd, hl, hj]))
  obtain ⟨Z, hZ⟩ : ∃ Z, (row64 []).toArray = Z := ⟨_, rfl⟩
  rw [hZ] at hz
  have HZ := Lib.hid hZ
  obtain ⟨Z8, hZ8⟩ : ∃ Z, s8 ⟨0, 0, 0, 0, 0, 0, 0, 0⟩ = Z := ⟨_, rfl⟩
  rw [hZ8] at hz8
  have HZ8 := Lib.hid hZ8
  obtain ⟨S0, hS0⟩ : ∃ S, s8 s = S := ⟨_, rfl⟩
  rw [hS0]
  have HS0 := Lib.hid hS0
  have HU8 := Lib.hid Tryd.underlying80
  have HC := Lib.hid hc
  obtain ⟨I32, hi32, hzz⟩ := Option.map_eq_some_iff.1 info32
  simp only [Prod.mk.injEq] at hzz
  have HI := Lib.hid (And.intro hi32 hzz)
  clear hs hl hby hZ hZ8 hS0 hcell hadlt hr hc hi32 hzz
  go_enter Tryd.func41, Tryd.ntmps41
  go_wp2_with fail
  have H2 := Lib.hid (blk_alloc (heap_alloc_new w (.cells S0 80)) (.cells Z8 80))
  have H4 := Lib.hid (show ((w.alloc (.cells S0 80)).alloc (.cells Z8 80)).heap[w.heap.size + 1]? = some (.cells Z8 80 (0, 0)) by
    have := heap_alloc_new (w.alloc (.cells S0 80)) (.cells Z8 80)
    rw [World.size_alloc] at this
    exact this)
  have HB1 := Lib.hid (below_alloc (below_alloc (Below.refl w.heap.size w) (.cells S0 80)) (.cells Z8 80))
  have HSZ1 := Lib.hid (show ((w.alloc (.cells S0 80)).alloc (.cells Z8 80)).heap.size = w.heap.size + 2 by rw [World.size_alloc, World.size_alloc])
  obtain ⟨W1, hW1⟩ : ∃ W, ((w.alloc (.cells S0 80)).alloc (.cells Z8 80)) = W := ⟨_, rfl⟩
  rw [hW1] at H2 H4 HB1 HSZ1 ⊢
  obtain ⟨b2, hb2⟩ : ∃ b, w.heap.size = b := ⟨_, rfl⟩
  rw [hb2] at H2 H4 HB1 HSZ1 ⊢
  obtain ⟨b4, hb4⟩ : ∃ b, b2 + 1 = b := ⟨_, rfl⟩
  rw [hb4] at H4 ⊢
  obtain ⟨b5, hb5⟩ : ∃ b, W1.heap.size = b := ⟨_, rfl⟩
  have HBB := Lib.hid (show w.heap.size = b2 ∧ b4 = b2 + 1 ∧ b5 = b2 + 2 ∧ W1.heap.size = b5 by have := HSZ1.out; omega)
  clear hW1 hb2 hb4 hb5 HSZ1
  go_loopw [5, 6] (fun v i wr => ∃ k : Nat, k ≤ 16 ∧ i = .int .i64 (k : Int) ∧ Hid (Kd.R (Kd.int .u32) 79 wr b5 (fun _ => True) v ((first16 bs).take k) ∧ Below b5 W1 wr)) (fun _ i _ => (16 - intOf i).toNat)
  case atStart => exact ⟨0, by omega, rfl, Lib.hid ⟨by rw [List.take_zero]; exact Kd.R_nil _ _ _ _ _, by rw [← HBB.out.2.2.2]; exact Below.refl _ _⟩⟩
  case round =>
    obtain ⟨k, hk, rfl, H⟩ := hrel
    obtain ⟨hR, hbl⟩ := H.out
    have HR := Lib.hid hR
    have HBL := Lib.hid hbl
    by_cases hlt : k < 16
    · have hce : ∀ j : Nat, j < 64 → wr.cell? (ad.add j) = some (.int .u8 (rd bs (j : Int))) := fun j hj => by
        have h1 := HCE.out j hj
        have h2 : (ad.add j).block = ad.block := by unfold Addr.add; split <;> rfl
        have h3 := HBB.out
        have h4 := HAD.out
        exact ((hbl.cell (p := ad.add j) (by rw [h2]; omega)).trans (HB1.out.cell (p := ad.add j) (by rw [h2]; omega))).trans h1
      have c0 := hce (4 * k) (by omega)
      have c1 := hce (4 * k + 1) (by omega)
      have c2 := hce (4 * k + 2) (by omega)
      have c3 := hce (4 * k + 3) (by omega)
      have hb4 : big4 bs k = (rd bs ((4 * k : Nat) : Int) * 16777216 + rd bs ((4 * k + 1 : Nat) : Int) * 65536 + rd bs ((4 * k + 2 : Nat) : Int) * 256 + rd bs ((4 * k + 3 : Nat) : Int)) % 4294967296 := rfl
      have hbx : ∀ j : Nat, j < 64 → 0 ≤ rd bs (j : Int) ∧ rd bs (j : Int) < 256 := fun j hj => by
        have := HBY.out (rd bs (j : Int)) (by simp [rd, HL.out, hj])
        exact this
      have x0 := hbx (4 * k) (by omega)
      have x1 := hbx (4 * k + 1) (by omega)
      have x2 := hbx (4 * k + 2) (by omega)
      have x3 := hbx (4 * k + 3) (by omega)
      obtain ⟨y0, hy0⟩ : ∃ y, rd bs ((4 * k : Nat) : Int) = y := ⟨_, rfl⟩
      obtain ⟨y1, hy1⟩ : ∃ y, rd bs ((4 * k + 1 : Nat) : Int) = y := ⟨_, rfl⟩
      obtain ⟨y2, hy2⟩ : ∃ y, rd bs ((4 * k + 2 : Nat) : Int) = y := ⟨_, rfl⟩
      obtain ⟨y3, hy3⟩ : ∃ y, rd bs ((4 * k + 3 : Nat) : Int) = y := ⟨_, rfl⟩
      rw [hy0] at c0 x0 hb4
      rw [hy1] at c1 x1 hb4
      rw [hy2] at c2 x2 hb4
      rw [hy3] at c3 x3 hb4
      obtain ⟨j0, hj0⟩ : ∃ j, 4 * k = j := ⟨_, rfl⟩
      obtain ⟨j1, hj1⟩ : ∃ j, 4 * k + 1 = j := ⟨_, rfl⟩
      obtain ⟨j2, hj2⟩ : ∃ j, 4 * k + 2 = j := ⟨_, rfl⟩
      obtain ⟨j3, hj3⟩ : ∃ j, 4 * k + 3 = j := ⟨_, rfl⟩
      rw [hj0] at c0
      rw [hj1] at c1
      rw [hj2] at c2
      rw [hj3] at c3
      have m0 : IntKind.i64.wrap (4 * (k : Int)) = (j0 : Int) := by rw [IntKind.wrap_i64]; omega
      have m1 : IntKind.i64.wrap ((j0 : Int) + 1) = (j1 : Int) := by rw [IntKind.wrap_i64]; omega
      have m2 : IntKind.i64.wrap ((j0 : Int) + 2) = (j2 : Int) := by rw [IntKind.wrap_i64]; omega
      have m3 : IntKind.i64.wrap ((j0 : Int) + 3) = (j3 : Int) := by rw [IntKind.wrap_i64]; omega
      have p0 : (j0 : Int) < 64 := by omega
      have p1 : (j1 : Int) < 64 := by omega
      have p2 : (j2 : Int) < 64 := by omega
      have p3 : (j3 : Int) < 64 := by omega
      obtain ⟨E, hE⟩ : ∃ E, big4 bs k = E := ⟨_, rfl⟩
      rw [hE] at hb4
      obtain ⟨z0, hz0⟩ : ∃ z, y0 * 16777216 = z := ⟨_, rfl⟩
      obtain ⟨z1, hz1⟩ : ∃ z, y1 * 65536 = z := ⟨_, rfl⟩
      obtain ⟨z2, hz2⟩ : ∃ z, y2 * 256 = z := ⟨_, rfl⟩
      obtain ⟨s1, hs1⟩ : ∃ z, z0 + z1 = z := ⟨_, rfl⟩
      obtain ⟨s2, hs2⟩ : ∃ z, s1 + z2 = z := ⟨_, rfl⟩
      have e3 : s2 + y3 = E := by omega
      have q0 : IntKind.u32.wrap y0 = y0 := by rw [IntKind.wrap_u32]; omega
      have q1 : IntKind.u32.wrap y1 = y1 := by rw [IntKind.wrap_u32]; omega
      have q2 : IntKind.u32.wrap y2 = y2 := by rw [IntKind.wrap_u32]; omega
      have q3 : IntKind.u32.wrap y3 = y3 := by rw [IntKind.wrap_u32]; omega
      have r0 : IntKind.u32.wrap z0 = z0 := by rw [IntKind.wrap_u32]; omega
      have r1 : IntKind.u32.wrap z1 = z1 := by rw [IntKind.wrap_u32]; omega
      have r2 : IntKind.u32.wrap z2 = z2 := by rw [IntKind.wrap_u32]; omega
      have r3 : IntKind.u32.wrap s1 = s1 := by rw [IntKind.wrap_u32]; omega
      have r4 : IntKind.u32.wrap s2 = s2 := by rw [IntKind.wrap_u32]; omega
      have r5 : IntKind.u32.wrap E = E := by rw [IntKind.wrap_u32]; omega
      have t0 : y0 % 4294967296 = y0 := by omega
      have t1 : y1 % 4294967296 = y1 := by omega
      have t2 : y2 % 4294967296 = y2 := by omega
      have t3 : y3 % 4294967296 = y3 := by omega
      have u0 : z0 % 4294967296 = z0 := by omega
      have u1 : z1 % 4294967296 = z1 := by omega
      have u2 : z2 % 4294967296 = z2 := by omega
      have u3 : s1 % 4294967296 = s1 := by omega
      have u4 : s2 % 4294967296 = s2 := by omega
      have u5 : E % 4294967296 = E := by omega
      have HE := Lib.hid hE
      have HKEEP := Lib.hid (show ∀ u : World, Below b5 W1 u → u.cell? (ad.add j0) = some (.int .u8 y0) ∧ u.cell? (ad.add j1) = some (.int .u8 y1) ∧ u.cell? (ad.add j2) = some (.int .u8 y2) ∧ u.cell? (ad.add j3) = some (.int .u8 y3) from by
        intro u hu
        have hx : ∀ j, j < 64 → u.cell? (ad.add j) = some (.int .u8 (rd bs (j : Int))) := fun j hj => by
          have h1 := HCE.out j hj
          have h2 : (ad.add j).block = ad.block := by unfold Addr.add; split <;> rfl
          have h3 := HBB.out
          have h4 := HAD.out
          exact ((hu.cell (p := ad.add j) (by rw [h2]; omega)).trans (HB1.out.cell (p := ad.add j) (by rw [h2]; omega))).trans h1
        rw [← hy0, ← hy1, ← hy2, ← hy3, hj1, hj2, hj3, hj0]
        exact ⟨hx j0 (by omega), hx j1 (by omega), hx j2 (by omega), hx j3 (by omega)⟩)
      have HBD := Lib.hid (below_drew HBL.out)
      have HRD := Lib.hid (Kd.R_drew HR.out)
      have HBA := Lib.hid (HBD.out.alloc (show b5 ≤ wr.drew.heap.size from by have := HBB.out; have := HBL.out.size; show b5 ≤ wr.heap.size; omega) (.cells #[.int .u32 E] 79))
      have HLE := Lib.hid (show b5 ≤ wr.drew.heap.size from by have := HBB.out; have := HBL.out.size; show b5 ≤ wr.heap.size; omega)
      have HLN := Lib.hid (show (((first16 bs).take k).length + 1) * 4 ≤ 140737488355328 by simp [first16]; omega)
      have HSTEP := Lib.hid (first16_get bs k hlt)
      rw [hE] at HSTEP
      obtain ⟨L, hL⟩ : ∃ L, (first16 bs).take k = L := ⟨_, rfl⟩
      rw [hL] at HRD HLN HSTEP
      clear hce hbx hb4 hy0 hy1 hy2 hy3 hj0 hj1 hj2 hj3 hR hbl H hE HR hL
      go_wp2_with fail
      go_region_held3 (fun u => u.cell? (ad.add j0) = some (.int .u8 y0) ∧ u.cell? (ad.add j1) = some (.int .u8 y1) ∧ u.cell? (ad.add j2) = some (.int .u8 y2) ∧ u.cell? (ad.add j3) = some (.int .u8 y3)) (first | exact HKEEP.out _ HBX.out | exact HKEEP.out _ HBD.out | exact HKEEP.out _ HBA.out) ((refine Kd.R_append_step (Kd.int .u32) (w0 := W1) b5 (by rfl) (.tmp 22) (.tmp 56) 86 79 (.int .u32 0) 4 (by rfl) Tryd.underlying86 info32 rfl (by decide) (by decide) _ L E _ (fun _ => True) (fun _ => False) (by rfl) (by rfl) rfl (fun _ hk => hk.elim) (fun _ _ => trivial) HRD.out HBD.out HLE.out HLN.out ?_; intro v1 w1 ho hb hg hat; have HBX := Lib.hid hb; have HRX := Lib.hid ho; clear ho hb hg hat))
      clear m0 m1 m2 m3 q0 q1 q2 q3 r0 r1 r2 r3 r4 r5 t0 t1 t2 t3 u0 u1 u2 u3 u4 u5 c0 c1 c2 c3
      go_wp2
      go_roundw
      case rel => exact ⟨k + 1, by omega, by go_num, Lib.hid ⟨by rw [HSTEP.out]; exact HRX.out, HBX.out⟩⟩
      case measure => simp only [intOf]; omega
    · obtain rfl : k = 16 := by omega
      have HR0 := Lib.hid (show Kd.R (Kd.int .u32) 79 wr b5 (fun _ => True) _ (ext 0 (first16 bs)) from (show (first16 bs).take 16 = ext 0 (first16 bs) from List.take_of_length_le (by simp [first16])) ▸ hR)
      clear hR hbl H HR hk hlt
      rw [show ((16 : Nat) : Int) = 16 from rfl]
      go_wp2_with fail
      go_loopw [5, 7] (fun v i wx => ∃ n : Nat, n ≤ 48 ∧ i = .int .i64 ((16 + n : Nat) : Int) ∧ Hid (Kd.R (Kd.int .u32) 79 wx b5 (fun _ => True) v (ext n (first16 bs)) ∧ Below b5 W1 wx)) (fun _ i _ => (64 - intOf i).toNat)
      case atStart => exact ⟨0, by omega, rfl, Lib.hid ⟨HR0.out, HBL.out⟩⟩
      case round =>
        obtain ⟨n, hn, rfl, H⟩ := hrel
        obtain ⟨hR, hbl⟩ := H.out
        have HBQ := Lib.hid hbl
        obtain ⟨t, ht⟩ : ∃ t, 16 + n = t := ⟨_, rfl⟩
        have ht1 : 16 ≤ t := by omega
        have ht2 : t ≤ 64 := by omega
        rw [ht]
        obtain ⟨L, hL⟩ : ∃ L, ext n (first16 bs) = L := ⟨_, rfl⟩
        have hLl : L.length = t := by rw [← hL, ext_len, ← ht]; simp [first16]
        have hLw : ∀ x ∈ L, Wd x := by rw [← hL]; exact ext_wd n _ (first16_wd bs)
        rw [hL] at hR
        obtain ⟨g, cap, hv, hg1, hg2, -⟩ := Kd.R_form hR (by omega)
        rw [hLl] at hv
        by_cases hlt : t < 64
        · subst hv
          have HRL := Lib.hid (show Kd.R (Kd.int .u32) 79 wr b5 (fun _ => True) (.slice (some ⟨g, 0, none⟩) t cap) L from hR)
          have g15 := R_at hR (j := t - 15) (by omega)
          have g2 := R_at hR (j := t - 2) (by omega)
          have g16 := R_at hR (j := t - 16) (by omega)
          have g7 := R_at hR (j := t - 7) (by omega)
          have hx15 := rd_wd hLw ((t - 15 : Nat) : Int)
          have hx2 := rd_wd hLw ((t - 2 : Nat) : Int)
          have hwx := wAt_of (L := L) hLl rfl rfl rfl rfl
          obtain ⟨x, hx⟩ : ∃ x, rd L ((t - 15 : Nat) : Int) = x := ⟨_, rfl⟩
          obtain ⟨y, hy⟩ : ∃ x, rd L ((t - 2 : Nat) : Int) = x := ⟨_, rfl⟩
          obtain ⟨p, hp⟩ : ∃ x, rd L ((t - 16 : Nat) : Int) = x := ⟨_, rfl⟩
          obtain ⟨q, hq⟩ : ∃ x, rd L ((t - 7 : Nat) : Int) = x := ⟨_, rfl⟩
          rw [hx] at g15 hx15 hwx
          rw [hy] at g2 hx2 hwx
          rw [hp] at g16 hwx
          rw [hq] at g7 hwx
          obtain ⟨j15, hj15⟩ : ∃ j, t - 15 = j := ⟨_, rfl⟩
          obtain ⟨j2, hj2⟩ : ∃ j, t - 2 = j := ⟨_, rfl⟩
          obtain ⟨j16, hj16⟩ : ∃ j, t - 16 = j := ⟨_, rfl⟩
          obtain ⟨j7, hj7⟩ : ∃ j, t - 7 = j := ⟨_, rfl⟩
          rw [hj15] at g15
          rw [hj2] at g2
          rw [hj16] at g16
          rw [hj7] at g7
          have v15 : IntKind.i64.wrap ((t : Int) - 15) = (j15 : Int) := by rw [IntKind.wrap_i64]; omega
          have v2 : IntKind.i64.wrap ((t : Int) - 2) = (j2 : Int) := by rw [IntKind.wrap_i64]; omega
          have v16 : IntKind.i64.wrap ((t : Int) - 16) = (j16 : Int) := by rw [IntKind.wrap_i64]; omega
          have v7 : IntKind.i64.wrap ((t : Int) - 7) = (j7 : Int) := by rw [IntKind.wrap_i64]; omega
          have w15 : (t : Int) - 15 = (j15 : Int) := by omega
          have w2 : (t : Int) - 2 = (j2 : Int) := by omega
          have w16 : (t : Int) - 16 = (j16 : Int) := by omega
          have w7 : (t : Int) - 7 = (j7 : Int) := by omega
          have b15 : (j15 : Int) < (t : Int) := by omega
          have b2' : (j2 : Int) < (t : Int) := by omega
          have b16 : (j16 : Int) < (t : Int) := by omega
          have b7 : (j7 : Int) < (t : Int) := by omega
          have n16 : j16 < t := by omega
          have vv16 : IntKind.i64.wrap (j16 : Int) = (j16 : Int) := by rw [IntKind.wrap_i64]; omega
          have vv7 : IntKind.i64.wrap (j7 : Int) = (j7 : Int) := by rw [IntKind.wrap_i64]; omega
          have n7 : j7 < t := by omega
          have z16 : (0 : Int) ≤ (j16 : Int) := by omega
          have z7 : (0 : Int) ≤ (j7 : Int) := by omega
          have tr16 : (j16 < t) = True := eq_true n16
          have tr7 : (j7 < t) = True := eq_true n7
          obtain ⟨X7, hX7⟩ : ∃ z, rrI x 7 = z := ⟨_, rfl⟩
          obtain ⟨X18, hX18⟩ : ∃ z, rrI x 18 = z := ⟨_, rfl⟩
          obtain ⟨Y17, hY17⟩ : ∃ z, rrI y 17 = z := ⟨_, rfl⟩
          obtain ⟨Y19, hY19⟩ : ∃ z, rrI y 19 = z := ⟨_, rfl⟩
          have HR7 := Lib.hid (show ∀ W, Calls Tryd.prog 45 #[.int .u32 x, .int .i64 7] W fun e w' => e = .returned (.int .u32 X7) ∧ w' = W from fun W => by rw [← hX7]; exact right_calls x 7 W hx15 (by decide))
          have HR18 := Lib.hid (show ∀ W, Calls Tryd.prog 45 #[.int .u32 x, .int .i64 18] W fun e w' => e = .returned (.int .u32 X18) ∧ w' = W from fun W => by rw [← hX18]; exact right_calls x 18 W hx15 (by decide))
          have HR17 := Lib.hid (show ∀ W, Calls Tryd.prog 45 #[.int .u32 y, .int .i64 17] W fun e w' => e = .returned (.int .u32 Y17) ∧ w' = W from fun W => by rw [← hY17]; exact right_calls y 17 W hx2 (by decide))
          have HR19 := Lib.hid (show ∀ W, Calls Tryd.prog 45 #[.int .u32 y, .int .i64 19] W fun e w' => e = .returned (.int .u32 Y19) ∧ w' = W from fun W => by rw [← hY19]; exact right_calls y 19 W hx2 (by decide))
          obtain ⟨x8, hx8⟩ : ∃ z, x / 8 = z := ⟨_, rfl⟩
          obtain ⟨y10, hy10⟩ : ∃ z, y / 1024 = z := ⟨_, rfl⟩
          obtain ⟨P1, hP1⟩ : ∃ z, Go.bits .xor .u32 X7 X18 = z := ⟨_, rfl⟩
          obtain ⟨P2, hP2⟩ : ∃ z, Go.bits .xor .u32 Y17 Y19 = z := ⟨_, rfl⟩
          obtain ⟨S1, hS1⟩ : ∃ z, Go.bits .xor .u32 P1 x8 = z := ⟨_, rfl⟩
          obtain ⟨S2, hS2⟩ : ∃ z, Go.bits .xor .u32 P2 y10 = z := ⟨_, rfl⟩
          have hsg0 : sg0 x = S1 := by rw [← hS1, ← hP1, ← hx8, ← hX7, ← hX18]; rfl
          have hsg1 : sg1 y = S2 := by rw [← hS2, ← hP2, ← hy10, ← hY17, ← hY19]; rfl
          rw [hsg0, hsg1] at hwx
          obtain ⟨q1, hq1⟩ : ∃ z, (p + S1) % 4294967296 = z := ⟨_, rfl⟩
          obtain ⟨q2, hq2⟩ : ∃ z, (q1 + q) % 4294967296 = z := ⟨_, rfl⟩
          obtain ⟨E, hE⟩ : ∃ z, (q2 + S2) % 4294967296 = z := ⟨_, rfl⟩
          have hEE : wAt L L.length = E := by rw [hwx, ← hE, ← hq2, ← hq1]; rfl
          have k1 : IntKind.u32.wrap (p + S1) = q1 := by rw [IntKind.wrap_u32]; exact hq1
          have k2 : IntKind.u32.wrap (q1 + q) = q2 := by rw [IntKind.wrap_u32]; exact hq2
          have k3 : IntKind.u32.wrap (q2 + S2) = E := by rw [IntKind.wrap_u32]; exact hE
          have xt : x.tdiv 8 = x8 := by rw [Int.tdiv_eq_ediv_of_nonneg hx15.1, hx8]
          have yt : y.tdiv 1024 = y10 := by rw [Int.tdiv_eq_ediv_of_nonneg hx2.1, hy10]
          have x8w : IntKind.u32.wrap x8 = x8 := by rw [IntKind.wrap_u32]; have := hx15.1; have := hx15.2; omega
          have y10w : IntKind.u32.wrap y10 = y10 := by rw [IntKind.wrap_u32]; have := hx2.1; have := hx2.2; omega
          have HEE := Lib.hid (show ext (n + 1) (first16 bs) = L ++ [E] by rw [ext_step, hL, hEE])
          have HLN := Lib.hid (show (t + 1) * 4 ≤ 140737488355328 ∧ t + 1 ≤ 1000000 by omega)
          have HNN := Lib.hid (show j16 < t ∧ j7 < t by omega)
          have HXY := Lib.hid (And.intro hx15 hx2)
          have HWX := Lib.hid hwx
          have HLL := Lib.hid hLl
          have HLH := Lib.hid hL
          have HNT := Lib.hid ht
          clear hR hbl H hL hLl hLw hx15 hx2 hwx hx hy hp hq hj15 hj2 hj16 hj7 hX7 hX18 hY17 hY19 hsg0 hsg1 hEE
          go_wp2_with fail
          go_quiet (fail)
          obtain ⟨wq, hwq⟩ : ∃ wq, wr.drewN nq = wq := ⟨_, rfl⟩
          have hsz : b5 ≤ wr.heap.size := by have := HBQ.out.size; have := HBB.out; omega
          have HQ := Lib.hid (show Kd.R (Kd.int .u32) 79 wq.drew b5 (fun _ => True) (.slice (some ⟨g, 0, none⟩) t cap) L ∧ Below b5 W1 wq.drew ∧ b5 ≤ wq.drew.heap.size ∧ wq.drew.cell? ⟨g, j16, none⟩ = some (.int .u32 p) ∧ wq.drew.cell? ⟨g, j7, none⟩ = some (.int .u32 q) ∧ (wq.drew.alloc (.cells #[.int .u32 E] 79)).cell? ⟨g, j16, none⟩ = some (.int .u32 p) ∧ (wq.drew.alloc (.cells #[.int .u32 E] 79)).cell? ⟨g, j7, none⟩ = some (.int .u32 q) by
            rw [← hwq]
            have hgw : g < ((wr.drewN nq).drew).heap.size := hg2
            have hr := Kd.R_drew (Kd.R_drewN HRL.out nq)
            have hbb : Below ((wr.drewN nq).drew).heap.size ((wr.drewN nq).drew) (((wr.drewN nq).drew).alloc (.cells #[.int .u32 E] 79)) := below_alloc (Below.refl _ _) _
            refine ⟨hr, below_drew (pw_below_drewN HBQ.out nq), hsz, g16, g7, (hbb.cell (p := ⟨g, j16, none⟩) hgw).trans g16, (hbb.cell (p := ⟨g, j7, none⟩) hgw).trans g7⟩)
          rw [hwq]
          have hrt := HQ.out.1
          clear g15 g2 g16 g7 v15 v2 w15 w2 b15 b2' hwq hsz hrt
          go_wp2_with fail
          go_region_held3 (fun u => u.cell? ⟨g, j16, none⟩ = some (.int .u32 p) ∧ u.cell? ⟨g, j7, none⟩ = some (.int .u32 q)) (first | exact ⟨HQ.out.2.2.2.1, HQ.out.2.2.2.2.1⟩ | exact ⟨HQ.out.2.2.2.2.2.1, HQ.out.2.2.2.2.2.2⟩ | exact ⟨(HKE.out _ HNN.out.1).trans HQ.out.2.2.2.1, (HKE.out _ HNN.out.2).trans HQ.out.2.2.2.2.1⟩) (first | (go_at_call 45; (with_reducible refine (HR7.out _).mono ?_); rintro e w9 ⟨rfl, rfl⟩) | (go_at_call 45; (with_reducible refine (HR18.out _).mono ?_); rintro e w9 ⟨rfl, rfl⟩) | (go_at_call 45; (with_reducible refine (HR17.out _).mono ?_); rintro e w9 ⟨rfl, rfl⟩) | (go_at_call 45; (with_reducible refine (HR19.out _).mono ?_); rintro e w9 ⟨rfl, rfl⟩) | ((refine R_push_keep (k := .u32) (w0 := W1) b5 (by rfl) (.tmp 72) (.tmp 102) 86 79 I32 (.int .u32 0) 4 (by rfl) Tryd.underlying86 HI.out.1 HI.out.2.1 HI.out.2.2.1 HI.out.2.2.2 rfl g t cap L E (by rfl) (by rfl) HQ.out.1 HQ.out.2.1 HQ.out.2.2.1 HLN.out.1 HLN.out.2 ?_; intro v1 w1 ho hb hke; have HBX := Lib.hid hb; have HRX := Lib.hid ho; have HKE := Lib.hid hke; clear ho hb hke)))
          clear v16 w16 v7 w7 b16 b7 n16 vv16 vv7 n7 z16 z7 tr16 tr7 k1 k2 k3 xt yt x8w y10w hq1 hq2 hE hP1 hP2 hS1 hS2 hx8 hy10
          go_wp2
          go_roundw
          case rel => exact ⟨n + 1, by have := HNT.out; omega, congrArg (Value.int .i64) (by have := HNT.out; omega), Lib.hid ⟨by rw [HEE.out]; exact HRX.out, HBX.out⟩⟩
          case measure =>
            show (64 - ((t : Int) + 1)).toNat < (64 - (t : Int)).toNat
            omega
        · obtain rfl : t = 64 := by omega
          have hn48 : n = 48 := by omega
          subst hn48
          obtain ⟨OG, hOG⟩ : ∃ o, wr.heap[g]? = o := ⟨_, rfl⟩
          subst hv
          have hL2 : wds bs = L := hL
          have HLIST := Lib.hid (show ∀ u : World, u.heap[g]? = OG → ∀ j : Nat, j < 64 → u.cell? ⟨g, j, none⟩ = some (.int .u32 (rd L (j : Int))) from fun u hu j hj => by
            have h1 := R_at hR (j := j) (by omega)
            rw [World.cell?_of_block (w := wr) (a := ⟨g, j, none⟩) (hu.trans hOG.symm)]
            exact h1)
          have hsz5 := HBB.out
          have hszw := HBQ.out.size
          have HBW := Lib.hid (HB1.out.trans (Below.mono HBQ.out (show b2 ≤ b5 by omega)))
          have H2q := Lib.hid ((HBQ.out.block b2 (by omega)).trans H2.out)
          have H4q := Lib.hid ((HBQ.out.block b4 (by omega)).trans H4.out)
          have HG := Lib.hid (show b5 ≤ g ∧ g < wr.heap.size ∧ b5 ≤ wr.heap.size from ⟨hg1, hg2, by omega⟩)
          have HOG := Lib.hid hOG
          have HLL := Lib.hid (And.intro hL2 hLl)
          have hws : ∀ x ∈ L, Wd x := hLw
          clear hR hbl H hL hL2 hLl hLw hOG hg1 hg2 hn ht ht1 ht2 hlt HR0 hsz5 hszw
          rw [show ((64 : Nat) : Int) = 64 from rfl]
          go_wp2_with fail
          refine (K_calls _).mono ?_
          rintro e w1 ⟨rfl, hb1⟩
          obtain ⟨KA, hKA⟩ : ∃ K, (nums .u32 kT).toArray = K := ⟨_, rfl⟩
          rw [hKA]
          have HKA := Lib.hid hKA
          have HSK := Lib.hid (show (Tryd.prog.info? 88).map (·.size) = some KA.size ∧ Z.size = KA.size ∧ KA.all (·.oneCell') = true by
            rw [← hKA, ← HZ.out, (zero_of_info infoW).2]
            refine ⟨by simp [nums, kT], by simp [nums, kT, row64_len], all_oneCell_toArray (nums_one .u32 kT)⟩)
          have H88 := Lib.hid (And.intro (show (Tryd.prog.info? 80).map (·.size) = some S0.size by rw [← HS0.out]; exact s8_size s) (And.intro (show Z8.size = S0.size by rw [← HS0.out, ← HZ8.out]; rfl) (show S0.all (·.oneCell') = true by rw [← HS0.out]; exact s8_one s)))
          have H2a := Lib.hid ((hb1.block b2 (blk_lt H2q.out)).trans H2q.out)
          have H4a := Lib.hid ((hb1.block b4 (blk_lt H4q.out)).trans H4q.out)
          have HGa := Lib.hid ((hb1.block g HG.out.2.1).trans HOG.out)
          have HWa := Lib.hid (HBW.out.trans (Below.mono hb1 (show b2 ≤ wr.heap.size by have := HG.out; have := HBB.out; omega)))
          have HSa := Lib.hid (show g < w1.heap.size ∧ b5 ≤ w1.heap.size by have := HG.out; have := hb1.size; omega)
          have HA := Lib.hid (blk_alloc H2a.out (.cells KA 88))
          clear hb1 hKA
          go_wp2_with (first | ((with_reducible show wpList _ _ _ (Oper.mk _ (Op.store 88 _ _) _ _ _ _ :: _) _ _); (refine wpl_store_new rfl 88 (.tmp 10) (.tmp 104) rfl Z KA rfl rfl HSK.out.1 HSK.out.2.1 HSK.out.2.2 ?_)) | ((with_reducible show wpList _ _ _ (Oper.mk _ (Op.load _ _) _ _ _ _ :: _) _ _); (refine wpList_load_row rfl 80 (.tmp 2) rfl b2 rfl 80 S0 (0, 0) _ HA.out HU8.out rfl H88.out.1 ?_)) | ((with_reducible show wpList _ _ _ (Oper.mk _ (Op.store 80 _ _) _ _ _ _ :: _) _ _); (refine wpl_store_new rfl 80 (.tmp 11) (.tmp 105) rfl Z8 S0 (by rw [World.size_alloc]; rfl) rfl H88.out.1 H88.out.2.1 H88.out.2.2 ?_)))
          have HKc := Lib.hid (blk_alloc (heap_alloc_new w1 (.cells KA 88)) (.cells S0 80))
          have HSc := Lib.hid (show ((w1.alloc (.cells KA 88)).alloc (.cells S0 80)).heap[w1.heap.size + 1]? = some (.cells S0 80 (0, 0)) by
            have := heap_alloc_new (w1.alloc (.cells KA 88)) (.cells S0 80)
            rw [World.size_alloc] at this
            exact this)
          have H2c := Lib.hid (blk_alloc (blk_alloc H2a.out (.cells KA 88)) (.cells S0 80))
          have H4c := Lib.hid (blk_alloc (blk_alloc H4a.out (.cells KA 88)) (.cells S0 80))
          have HGc := Lib.hid (show ((w1.alloc (.cells KA 88)).alloc (.cells S0 80)).heap[g]? = OG by
            have hg1 : g < (w1.alloc (.cells KA 88)).heap.size := by
              rw [World.size_alloc]
              have := HSa.out
              omega
            exact ((below_alloc (Below.refl _ (w1.alloc (.cells KA 88))) (.cells S0 80)).block g hg1).trans (((below_alloc (Below.refl _ w1) (.cells KA 88)).block g HSa.out.1).trans HGa.out))
          have HBc := Lib.hid ((HWa.out.alloc (by have := HSa.out; have := HBB.out; omega) (.cells KA 88)).alloc (by rw [World.size_alloc]; have := HSa.out; have := HBB.out; omega) (.cells S0 80))
          obtain ⟨W2, hW2⟩ : ∃ W, ((w1.alloc (.cells KA 88)).alloc (.cells S0 80)) = W := ⟨_, rfl⟩
          rw [hW2] at HKc HSc H2c H4c HGc HBc ⊢
          obtain ⟨b10, hb10⟩ : ∃ b, w1.heap.size = b := ⟨_, rfl⟩
          have hsa := HSa.out
          rw [hb10] at HKc HSc hsa ⊢
          obtain ⟨b11, hb11⟩ : ∃ b, b10 + 1 = b := ⟨_, rfl⟩
          rw [hb11] at HSc ⊢
          have HORD := Lib.hid (show b2 < b4 ∧ b4 < b5 ∧ b5 ≤ g ∧ g < b10 ∧ b10 < b11 by have := HG.out; have := HBB.out; omega)
          have HWS := Lib.hid hws
          clear hW2 hb10 hb11 hsa HA hz hz8 hws
          go_wp2_with fail
          go_loopw [12] (fun i wx => ∃ k : Nat, k ≤ 64 ∧ i = .int .i64 (k : Int) ∧ Hid (wx.heap[b11]? = some (.cells (s8 (rounds L k s)) 80 (0, 0)) ∧ wx.heap[b10]? = some (.cells KA 88 (0, 0)) ∧ wx.heap[g]? = OG ∧ wx.heap[b2]? = some (.cells S0 80 (0, 0)) ∧ wx.heap[b4]? = some (.cells Z8 80 (0, 0)) ∧ Below b2 w wx)) (fun i _ => (64 - intOf i).toNat)
          case atStart => exact ⟨0, by omega, rfl, Lib.hid ⟨by rw [HSc.out, ← HS0.out]; rfl, HKc.out, HGc.out, H2c.out, H4c.out, HBc.out⟩⟩
          case round =>
            obtain ⟨k, hk, rfl, H⟩ := hrel
            obtain ⟨h6, h5, hgg, h2, h4, hbl⟩ := H.out
            by_cases hlt : k < 64
            · obtain ⟨st, hst⟩ : ∃ st, rounds L k s = st := ⟨_, rfl⟩
              have hwd : st.wd := by rw [← hst]; exact rounds_wd L HS.out k
              rw [hst] at h6
              have HST := Lib.hid hst
              obtain ⟨sa, sb, sc, sd, se, sf, sg, sh⟩ := st
              obtain ⟨kk, hkk⟩ : ∃ x, rd kT (k : Int) = x := ⟨_, rfl⟩
              obtain ⟨wk, hwk⟩ : ∃ x, rd L (k : Int) = x := ⟨_, rfl⟩
              have HKW := Lib.hid (And.intro hkk hwk)
              have hall : ∀ wx : World, wx.heap[b11]? = some (.cells (s8 ⟨sa, sb, sc, sd, se, sf, sg, sh⟩) 80 (0, 0)) → wx.heap[b10]? = some (.cells KA 88 (0, 0)) → wx.heap[g]? = OG → (wx.cell? ⟨b11, 0, none⟩ = some (.int .u32 sa) ∧ wx.cell? ⟨b11, 1, none⟩ = some (.int .u32 sb) ∧ wx.cell? ⟨b11, 2, none⟩ = some (.int .u32 sc) ∧ wx.cell? ⟨b11, 3, none⟩ = some (.int .u32 sd) ∧ wx.cell? ⟨b11, 4, none⟩ = some (.int .u32 se) ∧ wx.cell? ⟨b11, 5, none⟩ = some (.int .u32 sf) ∧ wx.cell? ⟨b11, 6, none⟩ = some (.int .u32 sg) ∧ wx.cell? ⟨b11, 7, none⟩ = some (.int .u32 sh)) ∧ wx.cell? ⟨b10, k, none⟩ = some (.int .u32 kk) ∧ wx.cell? ⟨g, k, none⟩ = some (.int .u32 wk) := by
                intro wx h1 h2 h3
                refine ⟨⟨(blk_cell h1 0).trans rfl, (blk_cell h1 1).trans rfl, (blk_cell h1 2).trans rfl, (blk_cell h1 3).trans rfl, (blk_cell h1 4).trans rfl, (blk_cell h1 5).trans rfl, (blk_cell h1 6).trans rfl, (blk_cell h1 7).trans rfl⟩, ?_, ?_⟩
                · rw [← hkk]
                  refine (blk_cell h2 k).trans ?_
                  rw [← HKA.out]
                  simp [nums, rd, show kT.length = 64 from rfl, hlt]
                · rw [← hwk]
                  exact HLIST.out wx h3 k hlt
              have HALL := Lib.hid hall
              have i0 : (0 : Int) ≤ (k : Int) := by omega
              have i1 : (k : Int) < 64 := by omega
              obtain ⟨ne, hne⟩ : ∃ x, 4294967295 - se = x := ⟨_, rfl⟩
              have se0 : 0 ≤ se := hwd.2.1.1
              have se1 : se < 4294967296 := hwd.2.1.2
              have hne2 : (4294967295 - se) % 4294967296 = ne := by omega
              have hne3 : ne % 4294967296 = ne := by omega
              have hne4 : IntKind.u32.wrap ne = ne := by rw [IntKind.wrap_u32]; exact hne3
              obtain ⟨C1, hC1⟩ : ∃ x, chO se sf sg = x := ⟨_, rfl⟩
              have hch : Go.bits .xor .u32 (Go.bits .and .u32 se sf) (Go.bits .and .u32 ne sg) = C1 := by rw [← hC1, ← hne]; rfl
              obtain ⟨M1, hM1⟩ : ∃ x, maj sa sb sc = x := ⟨_, rfl⟩
              have HMJ := Lib.hid (show Go.bits .xor .u32 (Go.bits .xor .u32 (Go.bits .and .u32 sa sb) (Go.bits .and .u32 sa sc)) (Go.bits .and .u32 sb sc) = M1 by rw [← hM1]; rfl)
              have HCM := Lib.hid (And.intro hC1 hM1)
              obtain ⟨E6, hE6⟩ : ∃ x, rrI se 6 = x := ⟨_, rfl⟩
              obtain ⟨E11, hE11⟩ : ∃ x, rrI se 11 = x := ⟨_, rfl⟩
              obtain ⟨E25, hE25⟩ : ∃ x, rrI se 25 = x := ⟨_, rfl⟩
              obtain ⟨A2, hA2⟩ : ∃ x, rrI sa 2 = x := ⟨_, rfl⟩
              obtain ⟨A13, hA13⟩ : ∃ x, rrI sa 13 = x := ⟨_, rfl⟩
              obtain ⟨A22, hA22⟩ : ∃ x, rrI sa 22 = x := ⟨_, rfl⟩
              have HC6 := Lib.hid (show ∀ (W : World) (N : Nat), Calls Tryd.prog 45 #[.int .u32 se, .int .i64 6] (W.drewN N) fun e w' => e = .returned (.int .u32 E6) ∧ ∃ M, w' = W.drewN M from fun W N => (right_calls se 6 (W.drewN N) hwd.2.1 (by decide)).mono fun e w' ⟨he, hw⟩ => ⟨by rw [he, hE6], N, hw⟩)
              have HC11 := Lib.hid (show ∀ (W : World) (N : Nat), Calls Tryd.prog 45 #[.int .u32 se, .int .i64 11] (W.drewN N) fun e w' => e = .returned (.int .u32 E11) ∧ ∃ M, w' = W.drewN M from fun W N => (right_calls se 11 (W.drewN N) hwd.2.1 (by decide)).mono fun e w' ⟨he, hw⟩ => ⟨by rw [he, hE11], N, hw⟩)
              have HC25 := Lib.hid (show ∀ (W : World) (N : Nat), Calls Tryd.prog 45 #[.int .u32 se, .int .i64 25] (W.drewN N) fun e w' => e = .returned (.int .u32 E25) ∧ ∃ M, w' = W.drewN M from fun W N => (right_calls se 25 (W.drewN N) hwd.2.1 (by decide)).mono fun e w' ⟨he, hw⟩ => ⟨by rw [he, hE25], N, hw⟩)
              have HC2 := Lib.hid (show ∀ (W : World) (N : Nat), Calls Tryd.prog 45 #[.int .u32 sa, .int .i64 2] (W.drewN N) fun e w' => e = .returned (.int .u32 A2) ∧ ∃ M, w' = W.drewN M from fun W N => (right_calls sa 2 (W.drewN N) hwd.1.1 (by decide)).mono fun e w' ⟨he, hw⟩ => ⟨by rw [he, hA2], N, hw⟩)
              have HC13 := Lib.hid (show ∀ (W : World) (N : Nat), Calls Tryd.prog 45 #[.int .u32 sa, .int .i64 13] (W.drewN N) fun e w' => e = .returned (.int .u32 A13) ∧ ∃ M, w' = W.drewN M from fun W N => (right_calls sa 13 (W.drewN N) hwd.1.1 (by decide)).mono fun e w' ⟨he, hw⟩ => ⟨by rw [he, hA13], N, hw⟩)
              have HC22 := Lib.hid (show ∀ (W : World) (N : Nat), Calls Tryd.prog 45 #[.int .u32 sa, .int .i64 22] (W.drewN N) fun e w' => e = .returned (.int .u32 A22) ∧ ∃ M, w' = W.drewN M from fun W N => (right_calls sa 22 (W.drewN N) hwd.1.1 (by decide)).mono fun e w' ⟨he, hw⟩ => ⟨by rw [he, hA22], N, hw⟩)
              obtain ⟨U1, hU1⟩ : ∃ x, Go.bits .xor .u32 E6 E11 = x := ⟨_, rfl⟩
              obtain ⟨T1, hT1⟩ : ∃ x, Go.bits .xor .u32 U1 E25 = x := ⟨_, rfl⟩
              obtain ⟨U2, hU2⟩ : ∃ x, Go.bits .xor .u32 A2 A13 = x := ⟨_, rfl⟩
              obtain ⟨T2, hT2⟩ : ∃ x, Go.bits .xor .u32 U2 A22 = x := ⟨_, rfl⟩
              have HU2 := Lib.hid (And.intro hU2 hT2)
              have HTT := Lib.hid (show x3 (rrI se 6) (rrI se 11) (rrI se 25) = T1 ∧ x3 (rrI sa 2) (rrI sa 13) (rrI sa 22) = T2 from ⟨by rw [hE6, hE11, hE25, ← hT1, ← hU1]; rfl, by rw [hA2, hA13, hA22, ← hT2, ← hU2]; rfl⟩)
              have HWX := Lib.hid (And.intro h6 (And.intro h5 (And.intro hgg (And.intro h2 (And.intro h4 hbl)))))
              obtain ⟨⟨c0, c1, c2, c3, c4, c5, c6, c7⟩, ck, cw⟩ := hall wr h6 h5 hgg
              have HWD2 := Lib.hid hwd
              clear h6 h5 hgg h2 h4 hbl H hst hwd hkk hwk hall hC1 hM1 hE6 hE11 hE25 hA2 hA13 hA22 hU2 hT2
              go_wp2_with fail
              go_quiet (fail)
              obtain ⟨wp, hwp⟩ : ∃ wx, wr.drewN nq = wx := ⟨_, rfl⟩
              have HP := Lib.hid (show wp.heap[b11]? = some (.cells (s8 ⟨sa, sb, sc, sd, se, sf, sg, sh⟩) 80 (0, 0)) ∧ wp.heap[b10]? = some (.cells KA 88 (0, 0)) ∧ wp.heap[g]? = OG ∧ wp.heap[b2]? = some (.cells S0 80 (0, 0)) ∧ wp.heap[b4]? = some (.cells Z8 80 (0, 0)) ∧ Below b2 w wp by
                rw [← hwp]
                exact ⟨HWX.out.1, HWX.out.2.1, HWX.out.2.2.1, HWX.out.2.2.2.1, HWX.out.2.2.2.2.1, pw_below_drewN HWX.out.2.2.2.2.2 nq⟩)
              rw [hwp]
              clear hwp c0 c1 c2 c3 c4 c5 c6 c7 ck cw HWX
              obtain ⟨⟨c0, c1, c2, c3, c4, c5, c6, c7⟩, ck, cw⟩ := HALL.out wp HP.out.1 HP.out.2.1 HP.out.2.2.1
              go_wp2_with fail
              go_quiet ((first | (go_at_call 45; with_reducible exact HC6.out _ _) | (go_at_call 45; with_reducible exact HC11.out _ _) | (go_at_call 45; with_reducible exact HC25.out _ _)))
              clear hne hne2 hne3 hne4 hch hU1 hT1 c0 c1 c2 c3 c4 c5 c6 c7 ck cw
              obtain ⟨P1, hP1⟩ : ∃ x, ((sh + T1 + C1 + kk) % 4294967296 + wk) % 4294967296 = x := ⟨_, rfl⟩
              rw [hP1]
              have HP1 := Lib.hid hP1
              clear hP1
              obtain ⟨wq, hwq⟩ : ∃ wx, wp.drewN nq = wx := ⟨_, rfl⟩
              have HQ := Lib.hid (show wq.heap[b11]? = some (.cells (s8 ⟨sa, sb, sc, sd, se, sf, sg, sh⟩) 80 (0, 0)) ∧ wq.heap[b10]? = some (.cells KA 88 (0, 0)) ∧ wq.heap[g]? = OG ∧ wq.heap[b2]? = some (.cells S0 80 (0, 0)) ∧ wq.heap[b4]? = some (.cells Z8 80 (0, 0)) ∧ Below b2 w wq by
                rw [← hwq]
                exact ⟨HP.out.1, HP.out.2.1, HP.out.2.2.1, HP.out.2.2.2.1, HP.out.2.2.2.2.1, pw_below_drewN HP.out.2.2.2.2.2 nq⟩)
              rw [hwq]
              clear hwq HP
              obtain ⟨⟨c0, c1, c2, c3, c4, c5, c6, c7⟩, ck, cw⟩ := HALL.out wq HQ.out.1 HQ.out.2.1 HQ.out.2.2.1
              have hmj := HMJ.out
              have hU2 := HU2.out.1
              have hT2 := HU2.out.2
              go_wp2_with fail
              go_quiet ((first | (go_at_call 45; with_reducible exact HC2.out _ _) | (go_at_call 45; with_reducible exact HC13.out _ _) | (go_at_call 45; with_reducible exact HC22.out _ _)))
              clear hmj hU2 hT2 c0 c1 c2 c3 c4 c5 c6 c7 ck cw
              obtain ⟨Q1, hQ1⟩ : ∃ x, (T2 + M1) % 4294967296 = x := ⟨_, rfl⟩
              rw [hQ1]
              have HQ1 := Lib.hid hQ1
              clear hQ1
              obtain ⟨w3, hw3⟩ : ∃ wx, wq.drewN nq = wx := ⟨_, rfl⟩
              have H3 := Lib.hid (show w3.heap[b11]? = some (.cells (s8 ⟨sa, sb, sc, sd, se, sf, sg, sh⟩) 80 (0, 0)) ∧ w3.heap[b10]? = some (.cells KA 88 (0, 0)) ∧ w3.heap[g]? = OG ∧ w3.heap[b2]? = some (.cells S0 80 (0, 0)) ∧ w3.heap[b4]? = some (.cells Z8 80 (0, 0)) ∧ Below b2 w w3 by
                rw [← hw3]
                exact ⟨HQ.out.1, HQ.out.2.1, HQ.out.2.2.1, HQ.out.2.2.2.1, HQ.out.2.2.2.2.1, pw_below_drewN HQ.out.2.2.2.2.2 nq⟩)
              rw [hw3]
              clear hw3 HQ HU2 HMJ HC6 HC11 HC25 HC2 HC13 HC22
              obtain ⟨⟨c0, c1, c2, c3, c4, c5, c6, c7⟩, ck, cw⟩ := HALL.out w3 H3.out.1 H3.out.2.1 H3.out.2.2.1
              have f0 := blk_frozen H3.out.1 0
              have f1 := blk_frozen H3.out.1 1
              have f2 := blk_frozen H3.out.1 2
              have f3 := blk_frozen H3.out.1 3
              have f4 := blk_frozen H3.out.1 4
              have f5 := blk_frozen H3.out.1 5
              have f6 := blk_frozen H3.out.1 6
              have f7 := blk_frozen H3.out.1 7
              clear ck cw
              go_wp2_with fail
              have hord := HORD.out
              have hb211 : b2 ≤ b11 := by omega
              have n10 : b10 ≠ b11 := by omega
              have ng : g ≠ b11 := by omega
              have n2 : b2 ≠ b11 := by omega
              have n4 : b4 ≠ b11 := by omega
              refine ⟨⟨k + 1, by omega, by go_num, Lib.hid ⟨?_, ?_, ?_, ?_, ?_, ?_⟩⟩, by simp only [intOf]; omega⟩
              · rw [show rounds L (k + 1) s = round (rounds L k s) (rd kT (k : Int)) (rd L (k : Int)) from rfl, HST.out, HKW.out.1, HKW.out.2, round_is HTT.out.1 HTT.out.2 HCM.out.1 HCM.out.2 HP1.out HQ1.out]
                exact set8 H3.out.1 _ _
              · exact (far8 n10).trans H3.out.2.1
              · exact (far8 ng).trans H3.out.2.2.1
              · exact (far8 n2).trans H3.out.2.2.2.1
              · exact (far8 n4).trans H3.out.2.2.2.2.1
              · exact below8 H3.out.2.2.2.2.2 hb211
            · obtain rfl : k = 64 := by omega
              obtain ⟨v, hv⟩ : ∃ v, rounds L 64 s = v := ⟨_, rfl⟩
              rw [hv] at h6
              have HVV := Lib.hid hv
              have H6 := Lib.hid (show wr.heap[b11]? = some (.cells (arrF (mixF v s 0)) 80 (0, 0)) from by rw [mix_0]; exact h6)
              have H0 := Lib.hid (show wr.heap[b2]? = some (.cells (s8 s) 80 (0, 0)) from by rw [HS0.out]; exact h2)
              have H4x := Lib.hid h4
              have HBX := Lib.hid hbl
              clear h6 h5 hgg h2 h4 hbl H hk hlt hv HKc HSc H2c H4c HGc HBc
              rw [show ((64 : Nat) : Int) = 64 from rfl]
              go_wp2_with fail
              go_loopw [17] (fun i wx => ∃ k : Nat, k ≤ 8 ∧ i = .int .i64 (k : Int) ∧ Hid (wx.heap[b11]? = some (.cells (arrF (mixF v s k)) 80 (0, 0)) ∧ wx.heap[b2]? = some (.cells (s8 s) 80 (0, 0)) ∧ wx.heap[b4]? = some (.cells Z8 80 (0, 0)) ∧ Below b2 w wx)) (fun i _ => (8 - intOf i).toNat)
              case atStart => exact ⟨0, by omega, rfl, Lib.hid ⟨H6.out, H0.out, H4x.out, HBX.out⟩⟩
              case round =>
                obtain ⟨k, hk, rfl, H⟩ := hrel
                obtain ⟨h6, h2, h4, hbl⟩ := H.out
                by_cases hlt : k < 8
                · have c0 := (blk_cell h6 k).trans (arrF_get _ hlt)
                  have c1 := (blk_cell h2 k).trans (show (s8 s)[k]? = some (.int .u32 (s.at8 k)) by rw [s8_arr]; exact arrF_get _ hlt)
                  rw [mix_at] at c0
                  have f0 := blk_frozen h6 k
                  obtain ⟨x, hx⟩ : ∃ x, v.at8 k = x := ⟨_, rfl⟩
                  obtain ⟨y, hy⟩ : ∃ x, s.at8 k = x := ⟨_, rfl⟩
                  rw [hx] at c0
                  rw [hy] at c1
                  have hord := HORD.out
                  have HN := Lib.hid (show (wr.setCell ⟨b11, k, none⟩ (.int .u32 ((x + y) % 4294967296))).heap[b11]? = some (.cells (arrF (mixF v s (k + 1))) 80 (0, 0)) ∧ (wr.setCell ⟨b11, k, none⟩ (.int .u32 ((x + y) % 4294967296))).heap[b2]? = some (.cells (s8 s) 80 (0, 0)) ∧ (wr.setCell ⟨b11, k, none⟩ (.int .u32 ((x + y) % 4294967296))).heap[b4]? = some (.cells Z8 80 (0, 0)) ∧ Below b2 w (wr.setCell ⟨b11, k, none⟩ (.int .u32 ((x + y) % 4294967296))) from by
                    refine ⟨?_, ?_, ?_, hbl.setCell (p := ⟨b11, k, none⟩) (show b2 ≤ b11 by omega) _⟩
                    · rw [← mix_S v s hlt, hx, hy]
                      exact blk_set h6 k _
                    · rw [Below.heap_setCell _ _ _ _ (show b2 ≠ b11 by omega)]; exact h2
                    · rw [Below.heap_setCell _ _ _ _ (show b4 ≠ b11 by omega)]; exact h4)
                  have i0 : (0 : Int) ≤ (k : Int) := by omega
                  have i1 : (k : Int) < 8 := by omega
                  clear h6 h2 h4 hbl H hx hy hord
                  go_wp2_with fail
                  go_region
                  go_wp2
                  go_roundw
                  case rel =>
                    have := HN.out
                    exact ⟨k + 1, by omega, by go_num, Lib.hid ⟨this.1, this.2.1, this.2.2.1, below_drew this.2.2.2⟩⟩
                  case measure => simp only [intOf]; omega
                · obtain rfl : k = 8 := by omega
                  obtain ⟨RA, hRA⟩ : ∃ A, s8 (stepS s bs) = A := ⟨_, rfl⟩
                  have HF := Lib.hid (show wr.heap[b11]? = some (.cells RA 80 (0, 0)) by
                    rw [h6, ← hRA, mix_8', ← HVV.out, ← HLL.out.1]; rfl)
                  have HRS := Lib.hid (show (Tryd.prog.info? 80).map (·.size) = some RA.size ∧ Z8.size = RA.size ∧ RA.all (·.oneCell') = true by
                    rw [← hRA, ← HZ8.out]
                    exact ⟨s8_size _, rfl, s8_one _⟩)
                  have HG4 := Lib.hid h4
                  have HBY2 := Lib.hid hbl
                  have HRR := Lib.hid hRA
                  clear h2 h6 h4 hbl H hRA
                  rw [show ((8 : Nat) : Int) = 8 from rfl]
                  go_wp2_with (first | ((with_reducible show wpList _ _ _ (Oper.mk _ (Op.load _ _) _ _ _ _ :: _) _ _); (go_loud (refine wpList_load_row rfl 80 (.tmp 11) rfl b11 rfl 80 RA (0, 0) _ HF.out HU8.out rfl HRS.out.1 ?_))) | ((with_reducible show wpList _ _ _ (Oper.mk _ (Op.store _ _ _) _ _ _ _ :: _) _ _); (go_loud (refine wpList_store_row rfl 80 (.tmp 4) (.tmp 209) rfl b4 RA rfl rfl 80 Z8 HG4.out HRS.out.1 HRS.out.2.1 HRS.out.2.2 ?_))))
                  exact bodyPost_ret (results_cell_row rfl _ _ b4 80 RA (0, 0) _ rfl (setRow_heap _ _ _ _ _ _ HG4.out) HU8.out rfl HRS.out.1) rfl ⟨by rw [HRR.out], by rw [HBB.out.1]; exact below_setRow HBY2.out (by have := HORD.out; omega) _⟩
end Go.Proofs.YtpjkhecefppamaaDoor.Hand

/- The document's sum: walked. -/
namespace Go.Proofs.YtpjkhecefppamaaDoor.Hand
open Go Go.RowKit Go.Proofs.YtpjkhecefppamaaDoor.Plain Go.Proofs.YtpjkhecefppamaaDoor.PAll Go.Proofs.YtpjkhecefppamaaDoorW.PrintWords Go.Proofs.YtpjkhecefppamaaDoorW.PrintLast Go.Proofs.YtpjkhecefppamaaDoorW.PrintMore
set_option linter.unusedVariables false
set_option linter.unusedSimpArgs false
set_option maxRecDepth 100000
def preP (bs : List Int) (m : Nat) : List Int := bs ++ (128 :: List.replicate m 0)
theorem preP_len (bs : List Int) (m : Nat) : (preP bs m).length = bs.length + 1 + m := by
  simp [preP]
  omega
theorem preP_step (bs : List Int) (m : Nat) : preP bs (m + 1) = preP bs m ++ [0] := by
  simp [preP, List.replicate_succ']
theorem preP_pad (bs : List Int) : preP bs (padZ bs.length) ++ great 8 (8 * bs.length) = padB bs := rfl
theorem great_take (N k : Nat) (hk : k < 8) : (great 8 N).take (k + 1) = (great 8 N).take k ++ [((N / 256 ^ (7 - k) % 256 : Nat) : Int)] := by
  have h : great 8 N = [((N / 256 ^ 7 % 256 : Nat) : Int), ((N / 256 ^ 6 % 256 : Nat) : Int), ((N / 256 ^ 5 % 256 : Nat) : Int), ((N / 256 ^ 4 % 256 : Nat) : Int), ((N / 256 ^ 3 % 256 : Nat) : Int), ((N / 256 ^ 2 % 256 : Nat) : Int), ((N / 256 ^ 1 % 256 : Nat) : Int), ((N / 256 ^ 0 % 256 : Nat) : Int)] := by
    simp [great, digs, Nat.div_div_eq_div_mul]
  rw [h]
  match k, hk with
  | 0, _ => rfl
  | 1, _ => rfl
  | 2, _ => rfl
  | 3, _ => rfl
  | 4, _ => rfl
  | 5, _ => rfl
  | 6, _ => rfl
  | 7, _ => rfl
theorem great4 {x : Int} (h : Wd x) : great 4 x.toNat = [x / 16777216, x / 65536 % 256, x / 256 % 256, x % 256] := by
  obtain ⟨n, rfl⟩ := Int.eq_ofNat_of_zero_le h.1
  have h1 : (n : Int) < 4294967296 := h.2
  simp [great, digs, Nat.div_div_eq_div_mul]
  omega
theorem out_set (s : St) (n : Nat) (hn : n < 8) (a b c d : Int) (h : great 4 (s.at8 n).toNat = [a, b, c, d]) : ((((nums .u8 (outRow s n)).toArray.setIfInBounds (4 * n) (.int .u8 a)).setIfInBounds (4 * n + 1) (.int .u8 b)).setIfInBounds (4 * n + 2) (.int .u8 c)).setIfInBounds (4 * n + 3) (.int .u8 d) = (nums .u8 (outRow s (n + 1))).toArray := by
  have h1 : (nums .u8 (greats s n)).length = 4 * n := by simp [nums, greats_len]
  have h2 : nums .u8 (outRow s n) = nums .u8 (greats s n) ++ (.int .u8 0 :: .int .u8 0 :: .int .u8 0 :: .int .u8 0 :: List.replicate (28 - 4 * n) (.int .u8 0)) := by
    unfold outRow
    rw [show 32 - 4 * n = (28 - 4 * n) + 1 + 1 + 1 + 1 by omega]
    simp [nums, List.replicate_succ]
  have h3 : nums .u8 (outRow s (n + 1)) = nums .u8 (greats s n) ++ (.int .u8 a :: .int .u8 b :: .int .u8 c :: .int .u8 d :: List.replicate (28 - 4 * n) (.int .u8 0)) := by
    have hg : greats s (n + 1) = greats s n ++ great 4 (s.at8 n).toNat := rfl
    unfold outRow
    rw [hg, h, show 32 - 4 * (n + 1) = 28 - 4 * n by omega]
    simp [nums]
  rw [h2, h3]
  simp only [List.setIfInBounds_toArray]
  rw [List.set_append_right _ _ (by omega), h1, Nat.sub_self, List.set_append_right _ _ (by omega), h1, show 4 * n + 1 - 4 * n = 1 by omega, List.set_append_right _ _ (by omega), h1, show 4 * n + 2 - 4 * n = 2 by omega, List.set_append_right _ _ (by omega), h1, show 4 * n + 3 - 4 * n = 3 by omega]
  rfl
theorem up8 {w : World} {g : Nat} {t : TypeId} {s : St} {a b c d e f i j : Int} (h0 : w.heap[g]? = some (.cells (s8 s) t (0, 0))) :
    ((((((((w.setCell ⟨g, 0, none⟩ (.int .u32 a)).setCell ⟨g, 1, none⟩ (.int .u32 b)).setCell ⟨g, 2, none⟩ (.int .u32 c)).setCell ⟨g, 3, none⟩ (.int .u32 d)).setCell ⟨g, 4, none⟩ (.int .u32 e)).setCell ⟨g, 5, none⟩ (.int .u32 f)).setCell ⟨g, 6, none⟩ (.int .u32 i)).setCell ⟨g, 7, none⟩ (.int .u32 j)).heap[g]? = some (.cells (s8 ⟨a, b, c, d, e, f, i, j⟩) t (0, 0)) := by
  have h1 := blk_set h0 0 (.int .u32 a)
  have h2 := blk_set h1 1 (.int .u32 b)
  have h3 := blk_set h2 2 (.int .u32 c)
  have h4 := blk_set h3 3 (.int .u32 d)
  have h5 := blk_set h4 4 (.int .u32 e)
  have h6 := blk_set h5 5 (.int .u32 f)
  have h7 := blk_set h6 6 (.int .u32 i)
  have h8 := blk_set h7 7 (.int .u32 j)
  refine h8.trans ?_
  simp only [s8, List.setIfInBounds_toArray, List.set_cons_zero, List.set_cons_succ]
theorem upfar8 {w : World} {g k : Nat} {a b c d e f i j : Int} (h : k ≠ g) : ((((((((w.setCell ⟨g, 0, none⟩ (.int .u32 a)).setCell ⟨g, 1, none⟩ (.int .u32 b)).setCell ⟨g, 2, none⟩ (.int .u32 c)).setCell ⟨g, 3, none⟩ (.int .u32 d)).setCell ⟨g, 4, none⟩ (.int .u32 e)).setCell ⟨g, 5, none⟩ (.int .u32 f)).setCell ⟨g, 6, none⟩ (.int .u32 i)).setCell ⟨g, 7, none⟩ (.int .u32 j)).heap[k]? = w.heap[k]? := ((Below.heap_setCell _ ⟨g, 7, none⟩ _ k h).trans ((Below.heap_setCell _ ⟨g, 6, none⟩ _ k h).trans ((Below.heap_setCell _ ⟨g, 5, none⟩ _ k h).trans ((Below.heap_setCell _ ⟨g, 4, none⟩ _ k h).trans ((Below.heap_setCell _ ⟨g, 3, none⟩ _ k h).trans ((Below.heap_setCell _ ⟨g, 2, none⟩ _ k h).trans ((Below.heap_setCell _ ⟨g, 1, none⟩ _ k h).trans (Below.heap_setCell _ ⟨g, 0, none⟩ _ k h))))))))
theorem upbelow8 {w w0 : World} {g B : Nat} {a b c d e f i j : Int} (hb : Below B w0 w) (h : B ≤ g) : Below B w0 ((((((((w.setCell ⟨g, 0, none⟩ (.int .u32 a)).setCell ⟨g, 1, none⟩ (.int .u32 b)).setCell ⟨g, 2, none⟩ (.int .u32 c)).setCell ⟨g, 3, none⟩ (.int .u32 d)).setCell ⟨g, 4, none⟩ (.int .u32 e)).setCell ⟨g, 5, none⟩ (.int .u32 f)).setCell ⟨g, 6, none⟩ (.int .u32 i)).setCell ⟨g, 7, none⟩ (.int .u32 j)) := (Below.setCell (Below.setCell (Below.setCell (Below.setCell (Below.setCell (Below.setCell (Below.setCell (Below.setCell hb (p := ⟨g, 0, none⟩) h _) (p := ⟨g, 1, none⟩) h _) (p := ⟨g, 2, none⟩) h _) (p := ⟨g, 3, none⟩) h _) (p := ⟨g, 4, none⟩) h _) (p := ⟨g, 5, none⟩) h _) (p := ⟨g, 6, none⟩) h _) (p := ⟨g, 7, none⟩) h _)
theorem slice_first (W : World) (A : Option Addr) (m c : Nat) (hc : 64 ≤ c) : (Instr.sliceAt 28 (.slice A m c) none (some (.int .i64 64)) none).run Tryd.prog W = .ok (.slice A 64 c) W := by
  have hu : Tryd.prog.underlying 28 = some (.slice (Tryd.prog.elem 28)) := by kernel_rfl
  rw [run_sliceAt_slice W 28 _ _ _ _ hu, run_slice_h W 28 A m c hu .i64 64 (by omega) (by omega)]
  have z : (sizeOf (Tryd.prog.elem 28)).run Tryd.prog W = .ok 1 W := by rfl
  rw [z]
  have hA : A.map (fun x => x.add 0) = A := by cases A <;> simp [Addr.add]
  simp [sliced, Result.andThen, hA]
theorem info32b : (Tryd.prog.info? 41).map (fun i => (i.zero, i.size)) = some (some (.agg (nums .u8 (List.replicate 32 0)).toArray), 32) := by kernel_rfl
set_option maxHeartbeats 1000000 in
set_option maxRecDepth 100000 in
theorem rfirst_calls (w : World) :
    Calls Tryd.prog 40 #[] w fun e w' => e = .returned (.agg (s8 F0)) ∧ Below w.heap.size w w' := by
  have hz := (zero_of_info info8).1
  obtain ⟨Z, hZ⟩ : ∃ Z, s8 ⟨0, 0, 0, 0, 0, 0, 0, 0⟩ = Z := ⟨_, rfl⟩
  rw [hZ] at hz
  obtain ⟨V, hV⟩ : ∃ V, s8 F0 = V := ⟨_, rfl⟩
  have HB := Lib.hid (s8_build 1779033703 3144134277 1013904242 2773480762 1359893119 2600822924 528734635 1541459225)
  have hV2 : s8 ⟨1779033703, 3144134277, 1013904242, 2773480762, 1359893119, 2600822924, 528734635, 1541459225⟩ = V := hV
  rw [hV2] at HB
  rw [hV]
  have HS := Lib.hid (show (Tryd.prog.info? 80).map (·.size) = some V.size ∧ Z.size = V.size ∧ V.all (·.oneCell') = true by
    rw [← hV, ← hZ]
    exact ⟨s8_size _, rfl, s8_one _⟩)
  clear hZ hV hV2
  go_enter Tryd.func40, Tryd.ntmps40
  go_wp2_with (first | ((with_reducible show wpList _ _ _ (Oper.mk _ (Op.build _ _) _ _ _ _ :: _) _ _); (go_loud (refine wpl_build rfl 80 _ rfl #[(0, .int .u32 1779033703), (1, .int .u32 3144134277), (2, .int .u32 1013904242), (3, .int .u32 2773480762), (4, .int .u32 1359893119), (5, .int .u32 2600822924), (6, .int .u32 528734635), (7, .int .u32 1541459225)] (by simp [Act.eval]) V HB.out ?_))) | ((with_reducible show wpList _ _ _ (Oper.mk _ (Op.store _ _ _) _ _ _ _ :: _) _ _); (go_loud (refine wpl_store_new rfl 80 (.tmp 0) (.tmp 1) rfl Z V rfl rfl HS.out.1 HS.out.2.1 HS.out.2.2 ?_))))
  exact bodyPost_ret (results_cell_row rfl _ _ w.heap.size 80 V (0, 0) _ rfl (heap_alloc_new w _) Tryd.underlying80 rfl HS.out.1) rfl ⟨rfl, below_alloc (Below.refl _ _) _⟩
end Go.Proofs.YtpjkhecefppamaaDoor.Hand

/- The document's sum: the function itself. -/
namespace Go.Proofs.YtpjkhecefppamaaDoor.Hand
open Go Go.RowKit Go.Proofs.YtpjkhecefppamaaDoor.Plain Go.Proofs.YtpjkhecefppamaaDoor.PAll Go.Proofs.YtpjkhecefppamaaDoorW.PrintWords Go.Proofs.YtpjkhecefppamaaDoorW.PrintLast Go.Proofs.YtpjkhecefppamaaDoorW.PrintMore
set_option linter.unusedVariables false
set_option linter.unusedSimpArgs false
set_option maxRecDepth 100000
attribute [local go_sem ↓] Go.wp_at_zero Go.wp_at_succ
set_option maxHeartbeats 2000000 in
set_option maxRecDepth 100000 in
theorem rsum_calls (bs : List Int) (w : World) (hl : bs.length ≤ 800000) (hb : ∀ x ∈ bs, 0 ≤ x ∧ x < 256) :
    Calls Tryd.prog 29 #[.string (strOfNums bs)] w fun e w' => e = .returned (.agg (nums .u8 (sumP bs)).toArray) ∧ Below w.heap.size w w' := by
  have hz30 := (zero_of_info info32b).1
  obtain ⟨Z0, hZ0⟩ : ∃ C, (nums .u8 (List.replicate 32 0)).toArray = C := ⟨_, rfl⟩
  rw [hZ0] at hz30
  have HZ0 := Lib.hid hZ0
  have HBY := Lib.hid hb
  have HOB := Lib.hid (fun W => ownB_of_bytes W hb (by omega))
  have kb := fun W => print_bytes (P := Tryd.prog) 9 28 5 Tryd.underlying9 Tryd.underlying28 Tryd.underlying5 (strOfNums bs) W
  have hS := strOfNums_size bs
  obtain ⟨S, hSS⟩ : ∃ S, strOfNums bs = S := ⟨_, rfl⟩
  rw [hSS] at hS kb HOB ⊢
  obtain ⟨nb, hnb⟩ : ∃ n, bs.length = n := ⟨_, rfl⟩
  rw [hnb] at hS hl
  have HNB := Lib.hid hnb
  have HL := Lib.hid hl
  have HSZ := Lib.hid hS
  obtain ⟨pz, hpz⟩ : ∃ z, padZ nb = z := ⟨_, rfl⟩
  have hp1 : pz < 64 ∧ (nb + 1 + pz) % 64 = 56 ∧ ∀ m, m < pz → (nb + 1 + m) % 64 ≠ 56 := by
    unfold padZ at hpz
    refine ⟨by omega, by omega, fun m hm => by omega⟩
  have HPZ := Lib.hid (And.intro hpz hp1)
  have HW1 := Lib.hid (show w.heap.size + 1 = (w.alloc (.cells Z0 41)).heap.size by rw [World.size_alloc])
  have HB1 := Lib.hid (below_alloc (Below.refl w.heap.size w) (.cells Z0 41))
  have H1 := Lib.hid (heap_alloc_new w (.cells Z0 41))
  have hob := HOB.out (w.alloc (.cells Z0 41))
  have hbw := bytesW_below (w.alloc (.cells Z0 41)) S
  have hbz := hbw.size
  rw [World.size_alloc] at hob hbw hbz
  have HPU := Lib.hid (And.intro hob (And.intro hbw hbz))
  have HL9 := Lib.hid (show bs.length ≤ 900000 by omega)
  clear hZ0 hb hSS hS hnb hl hpz hp1 hob hbw hbz
  go_enter Tryd.func29, Tryd.ntmps29
  go_wp2_with ((with_reducible refine gate_builtin (b := .append) (xs := #[.tmp 12, .tmp 13]) rfl ?_); (go_loud (refine ownB_push (w0 := w.alloc (.cells Z0 41)) (w.heap.size + 1) rfl (.tmp 12) (.tmp 13) rfl _ bs 128 rfl rfl HPU.out.1 HPU.out.2.1 HPU.out.2.2 HL9.out ?_)); intro v1 w1 ho1 hb1)
  have HO := Lib.hid (show OwnB w1 (w.heap.size + 1) v1 (preP bs 0) from ho1)
  have HB := Lib.hid hb1
  clear ho1 hb1 HPU HOB kb
  obtain ⟨W1, hW1⟩ : ∃ W, w.alloc (.cells Z0 41) = W := ⟨_, rfl⟩
  rw [hW1] at HB HW1 HB1 H1
  obtain ⟨b0, hb0⟩ : ∃ b, w.heap.size = b := ⟨_, rfl⟩
  rw [hb0] at HW1 HB1 H1 HO HB ⊢
  obtain ⟨b1, hb1⟩ : ∃ b, b0 + 1 = b := ⟨_, rfl⟩
  rw [hb1] at HO HB HW1
  have HBB := Lib.hid (show w.heap.size = b0 ∧ W1.heap.size = b1 ∧ b0 + 1 = b1 from ⟨hb0, HW1.out.symm, hb1⟩)
  have HB0 := Lib.hid (show b1 ≤ w1.heap.size from by have := HB.out.size; have := HBB.out; omega)
  clear hW1 hb0 hb1
  go_loopw [3] (fun v wr => ∃ m : Nat, m ≤ pz ∧ Hid (OwnB wr b1 v (preP bs m) ∧ Below b1 W1 wr ∧ b1 ≤ wr.heap.size)) (fun v _ => match v with | .slice _ l _ => nb + 1 + pz - l | _ => 0)
  case atStart => exact ⟨0, by omega, Lib.hid ⟨HO.out, HB.out, HB0.out⟩⟩
  case round =>
    obtain ⟨m, hm, H⟩ := hrel
    obtain ⟨ho, hbl, hsz⟩ := H.out
    obtain ⟨A, c, hv, hc, -⟩ := ho.reads (by rw [preP_len, HNB.out]; have := HL.out; have := HPZ.out.2.1; omega)
    subst hv
    have HO := Lib.hid ho
    have HBL := Lib.hid hbl
    have HSZ2 := Lib.hid hsz
    have HPL := Lib.hid (show (preP bs m).length ≤ 900000 by rw [preP_len, HNB.out]; have := HL.out; have := HPZ.out.2.1; omega)
    have hpl : (preP bs m).length = nb + 1 + m := by rw [preP_len, HNB.out]
    have HPLE := Lib.hid hpl
    obtain ⟨q, hq⟩ : ∃ q, (preP bs m).length = q := ⟨_, rfl⟩
    rw [hq] at hpl hc HO HPL HPLE ⊢
    have hqm : (q : Int).tmod 64 = (q : Int) % 64 := Int.tmod_eq_emod_of_nonneg (by omega)
    have HQ := Lib.hid hq
    by_cases hlt : m < pz
    · have hne : ((q : Int) % 64 == 56) = false := by rw [beq_eq_false_iff_ne]; have := HPZ.out.2.2.2 m hlt; omega
      have hne2 : ((q : Int) % 64 != 56) = true := by simp only [bne, hne]; rfl
      clear ho hbl hsz H hpl hq hc
      go_wp2_with ((with_reducible refine gate_builtin (b := .append) (xs := #[.tmp 19, .tmp 20]) rfl ?_); (go_loud (refine ownB_push (w0 := W1) b1 rfl (.tmp 19) (.tmp 20) rfl _ (preP bs m) 0 rfl rfl HO.out HBL.out HSZ2.out (by rw [HQ.out]; exact HPL.out) ?_)); intro v1 w1 ho1 hb1; rw [← preP_step] at ho1)
      have HO2 := Lib.hid ho1
      have HB2 := Lib.hid hb1
      have HS2 := Lib.hid (show b1 ≤ w1.heap.size from by have := hb1.size; have := HBB.out; omega)
      clear ho1 hb1 hqm hne hne2
      go_wp2
      go_roundw
      case rel => exact ⟨m + 1, by omega, Lib.hid ⟨HO2.out, HB2.out, HS2.out⟩⟩
      case measure =>
        obtain ⟨A2, c2, hv2, -, -⟩ := HO2.out.reads (by rw [preP_len, HNB.out]; have := HL.out; have := HPZ.out.2.1; omega)
        subst hv2
        rw [preP_len, HNB.out]
        have := HPLE.out
        show nb + 1 + pz - (nb + 1 + (m + 1)) < nb + 1 + pz - q
        omega
    · obtain rfl : m = pz := by omega
      have he : ((q : Int) % 64 == 56) = true := by rw [beq_iff_eq]; have := HPZ.out.2.2.1; omega
      have hne2 : ((q : Int) % 64 != 56) = false := by simp only [bne, he]; rfl
      have hq56 : (q : Int) % 64 = 56 := by have := HPZ.out.2.2.1; omega
      obtain ⟨N, hN⟩ : ∃ N, 8 * nb = N := ⟨_, rfl⟩
      have hn8 : (nb : Int) * 8 = (N : Int) := by omega
      have hnb2 : (nb : Int) ≤ 800000 := by have := HL.out; omega
      have hs : S.size = nb := HSZ.out
      have HN := Lib.hid (show 8 * nb = N ∧ N ≤ 6400000 by have := HL.out; omega)
      have HO0 := Lib.hid (show OwnB wr b1 (.slice A q c) (preP bs m ++ (great 8 N).take 0) by rw [List.take_zero, List.append_nil]; exact HO.out)
      clear ho hbl hsz H hpl hq hc hlt hm HO hN
      go_wp2_with fail
      have HPL := Lib.hid (show (preP bs m).length ≤ 900000 ∧ (preP bs m).length = nb + 1 + m by rw [preP_len, HNB.out]; have := HL.out; have := HPZ.out.2.1; omega)
      obtain ⟨PP, hPP⟩ : ∃ P, preP bs m = P := ⟨_, rfl⟩
      rw [hPP] at HO0 HPL
      have HPP := Lib.hid hPP
      clear hPP he hne2 hq56 hn8 hnb2 hs hqm
      go_loopw [3, 5] (fun v i wx => ∃ k : Nat, k ≤ 8 ∧ i = .int .i64 (k : Int) ∧ Hid (OwnB wx b1 v (PP ++ (great 8 N).take k) ∧ Below b1 W1 wx ∧ b1 ≤ wx.heap.size)) (fun _ i _ => (8 - intOf i).toNat)
      case atStart => exact ⟨0, by omega, rfl, Lib.hid ⟨HO0.out, HBL.out, HSZ2.out⟩⟩
      case round =>
        obtain ⟨k, hk, rfl, H⟩ := hrel
        obtain ⟨ho, hbl, hsz⟩ := H.out
        have HO := Lib.hid ho
        have HBK := Lib.hid hbl
        have HSK := Lib.hid hsz
        clear ho hbl hsz H
        by_cases hlt : k < 8
        · obtain ⟨wo, rfl⟩ : ∃ wo : World, wo = wr := ⟨_, rfl⟩
          go_wp2_with fail
          go_loop [6, 7] (fun d j => ∃ t : Nat, t ≤ 7 - k ∧ j = .int .i64 (t : Int) ∧ d = .int .u64 ((N / 256 ^ t : Nat) : Int)) (fun _ j => (7 - k - (intOf j).toNat))
          case atStart => exact ⟨0, by omega, rfl, by simp⟩
          case round =>
            obtain ⟨t, ht, rfl, rfl⟩ := hrel
            have hdd : N / 256 ^ (t + 1) = N / 256 ^ t / 256 := by rw [Nat.pow_succ, Nat.div_div_eq_div_mul]
            have hDl : N / 256 ^ t ≤ N := Nat.div_le_self _ _
            have hNl := HN.out.2
            have hgt := great_take N k hlt
            obtain ⟨D, hD⟩ : ∃ D, N / 256 ^ t = D := ⟨_, rfl⟩
            rw [hD] at hdd hDl ⊢
            have HDD := Lib.hid hdd
            have hD2 : (D : Int) ≤ 6400000 := by omega
            by_cases hlt2 : t < 7 - k
            · have h7 : (t : Int) < 7 - (k : Int) := by omega
              clear hgt hdd hDl hD hNl
              go_wp2_with fail
              go_round
              case rel => exact ⟨t + 1, by omega, by go_num, by rw [HDD.out]; exact congrArg (Value.int .u64) (by omega)⟩
              case measure => simp only [intOf]; omega
            · obtain rfl : t = 7 - k := by omega
              have h7 : ¬ (((7 - k : Nat) : Int) < 7 - (k : Int)) := by omega
              have h7b : ((7 - k : Nat) : Int) = 7 - (k : Int) := by omega
              rw [hD] at hgt
              obtain ⟨P, hP⟩ : ∃ P : Int, ((D % 256 : Nat) : Int) = P := ⟨_, rfl⟩
              rw [hP] at hgt
              have hP2 : (D : Int) % 256 = P := by omega
              have hP3 : IntKind.u8.wrap P = P := by rw [IntKind.wrap_u8]; omega
              have hP4 : P % 256 = P := by omega
              have HGT := Lib.hid (show PP ++ (great 8 N).take (k + 1) = (PP ++ (great 8 N).take k) ++ [P] by rw [hgt, List.append_assoc])
              have HLE := Lib.hid (show (PP ++ (great 8 N).take k).length ≤ 900000 by have := HPL.out; have := HL.out; have := HPZ.out.2.1; rw [List.length_append, List.length_take, great_len]; omega)
              clear hgt hdd hDl hD hNl hP
              rw [h7b]
              go_wp2_with ((with_reducible refine gate_builtin (b := .append) (xs := #[.tmp 39, .tmp 43]) rfl ?_); (go_loud (refine ownB_push (w0 := W1) b1 rfl (.tmp 39) (.tmp 43) rfl _ (PP ++ (great 8 N).take k) P rfl rfl HO.out HBK.out HSK.out HLE.out ?_)); intro v1 w1 ho1 hb1; rw [← HGT.out] at ho1)
              have HO2 := Lib.hid ho1
              have HB2 := Lib.hid hb1
              have HS2 := Lib.hid (show b1 ≤ w1.heap.size from by have := hb1.size; have := HBB.out; omega)
              clear ho1 hb1 hP2 hP3 hP4 h7 h7b hD2
              go_wp2
              go_roundw
              case rel => exact ⟨k + 1, by omega, by go_num, Lib.hid ⟨HO2.out, HB2.out, HS2.out⟩⟩
              case measure => simp only [intOf]; omega
        · obtain rfl : k = 8 := by omega
          rw [show ((8 : Nat) : Int) = 8 from rfl]
          have hpad : PP ++ (great 8 N).take 8 = padB bs := by
            rw [← HPP.out, ← HPZ.out.1, ← HN.out.1, ← HNB.out, List.take_of_length_le (by rw [great_len]; omega)]
            exact preP_pad bs
          have ho := HO.out
          rw [hpad] at ho
          have hpl : (padB bs).length % 64 = 0 := padB_len bs
          have hpb : ∀ x ∈ padB bs, 0 ≤ x ∧ x < 256 := padB_bytes HBY.out
          have hpl2 : (padB bs).length ≤ 900100 := by
            rw [← hpad, List.length_append]
            have := HPL.out.1
            simp [great_len]
            omega
          have hst : stOf (padB bs) = stN (padB bs) ((padB bs).length / 64) := rfl
          have hsum : sumP bs = outB (stOf (padB bs)) := rfl
          obtain ⟨pd, hpd⟩ : ∃ p, padB bs = p := ⟨_, rfl⟩
          rw [hpd] at ho hpl hpb hpl2 hst hsum
          obtain ⟨A, c, hv, hc, hC⟩ := ho.reads (by omega)
          subst hv
          obtain ⟨LP, hLP⟩ : ∃ l, pd.length = l := ⟨_, rfl⟩
          rw [hLP] at hpl hpl2 hst hc hC ⊢
          have HC := Lib.hid hC
          have HLP := Lib.hid (And.intro hLP (And.intro hpl (And.intro hpb (And.intro hpl2 (And.intro hst hsum)))))
          have HCC := Lib.hid hc
          have HBK0 := Lib.hid (HB1.out.trans (Below.mono HBK.out (by have := HBB.out; omega)))
          have H10 := Lib.hid ((HBK.out.block b0 (by have := HBB.out; omega)).trans H1.out)
          have hz8 := (zero_of_info info8).1
          obtain ⟨Z8, hZ8⟩ : ∃ Z, s8 ⟨0, 0, 0, 0, 0, 0, 0, 0⟩ = Z := ⟨_, rfl⟩
          rw [hZ8] at hz8
          obtain ⟨F8, hF8⟩ : ∃ Z, s8 F0 = Z := ⟨_, rfl⟩
          have HF8 := Lib.hid (And.intro (show (Tryd.prog.info? 80).map (·.size) = some F8.size from by rw [← hF8]; exact s8_size _) (And.intro (show Z8.size = F8.size from by rw [← hF8, ← hZ8]; rfl) (show F8.all (·.oneCell') = true from by rw [← hF8]; exact s8_one _)))
          have HFF := Lib.hid hF8
          clear hpad ho hpl hpb hpl2 hst hsum hpd hLP hC hc hZ8 hF8 HO hk hlt
          go_wp2_with fail
          refine (rfirst_calls _).mono ?_
          rw [HFF.out]
          rintro e w2 ⟨rfl, hb2⟩
          have HC2 := Lib.hid (Kd.C_below HC.out hb2)
          have HB2 := Lib.hid (HBK0.out.trans (Below.mono hb2 (by have := HSK.out; have := HBB.out; omega)))
          have H12 := Lib.hid ((hb2.block b0 (by have := HSK.out; have := HBB.out; omega)).trans H10.out)
          have HS2 := Lib.hid (show b0 < w2.heap.size by have := hb2.size; have := HSK.out; have := HBB.out; omega)
          clear hb2 HC HBK0 H10
          go_wp2_with ((with_reducible show wpList _ _ _ (Oper.mk _ (Op.store _ _ _) _ _ _ _ :: _) _ _); (go_loud (refine wpl_store_new rfl 80 (.tmp 8) (.tmp 45) rfl Z8 F8 rfl rfl HF8.out.1 HF8.out.2.1 HF8.out.2.2 ?_)))
          have HN8 := Lib.hid (show (w2.alloc (.cells F8 80)).heap[w2.heap.size]? = some (.cells (s8 (stN pd 0)) 80 (0, 0)) by rw [heap_alloc_new, show stN pd 0 = F0 from rfl, HFF.out])
          have HB3 := Lib.hid (below_alloc (Below.refl w2.heap.size w2) (.cells F8 80))
          obtain ⟨W3, hW3⟩ : ∃ W, w2.alloc (.cells F8 80) = W := ⟨_, rfl⟩
          rw [hW3] at HN8 HB3 ⊢
          obtain ⟨b8, hb8⟩ : ∃ b, w2.heap.size = b := ⟨_, rfl⟩
          have hs2 := HS2.out
          rw [hb8] at HN8 HB3 hs2 ⊢
          have HW8 := Lib.hid (And.intro hb8 hs2)
          clear hW3 hb8 hs2 hz8
          simp only [Act.put, List.setIfInBounds_toArray, List.set_cons_succ, List.set_cons_zero]
          go_loopw [3] (fun v wx => ∃ (j : Nat) (A' : Option Addr) (c' : Nat), 64 * j ≤ LP ∧ v = .slice A' (LP - 64 * j) c' ∧ LP - 64 * j ≤ c' ∧ Hid (Kd.C (Kd.int .u8) w2 A' (pd.drop (64 * j)).length (pd.drop (64 * j)) ∧ wx.heap[b8]? = some (.cells (s8 (stN pd j)) 80 (0, 0)) ∧ Below b8 w2 wx)) (fun v _ => match v with | .slice _ l _ => l | _ => 0)
          case atStart => exact ⟨0, A, c, by omega, by simp, by have := HCC.out; omega, Lib.hid ⟨by rw [Nat.mul_zero, List.drop_zero, HLP.out.1]; exact HC2.out, HN8.out, HB3.out⟩⟩
          case round =>
            obtain ⟨j, A', c', hj, rfl, hc', H⟩ := hrel
            obtain ⟨hC, h8, hbl⟩ := H.out
            obtain ⟨l, hl⟩ : ∃ l, LP - 64 * j = l := ⟨_, rfl⟩
            have hdl : (pd.drop (64 * j)).length = l := by rw [List.length_drop, HLP.out.1]; exact hl
            rw [hl] at hc' ⊢
            by_cases hlt : 64 * j < LP
            · have hl64 : 64 ≤ l := by have := HLP.out.2.1; omega
              obtain ⟨st, hst⟩ : ∃ st, stN pd j = st := ⟨_, rfl⟩
              have hwd : st.wd := by rw [← hst]; exact stN_wd pd j
              rw [hst] at h8
              have hnx : stN pd (j + 1) = stepS st ((pd.drop (64 * j)).take 64) := by rw [← hst]; rfl
              have hCw := Kd.C_below hC (show Below w2.heap.size w2 wr.drew from by rw [HW8.out.1]; exact below_drew hbl)
              rw [hdl] at hCw
              have htl : ((pd.drop (64 * j)).take 64).length = 64 := by rw [List.length_take, hdl]; omega
              have hC64 := Kd.C_take (m := 64) (by rw [hdl]; exact hCw) (by rw [hdl]; exact hl64)
              rw [htl] at hC64
              have htb : ∀ x ∈ (pd.drop (64 * j)).take 64, 0 ≤ x ∧ x < 256 := fun x hx => HLP.out.2.2.1 x (List.mem_of_mem_drop (List.mem_of_mem_take hx))
              have hstep := step_calls st A' c' _ wr.drew hwd hC64 (by omega) htl htb
              obtain ⟨ns, hns⟩ : ∃ s', stepS st ((pd.drop (64 * j)).take 64) = s' := ⟨_, rfl⟩
              rw [hns] at hstep hnx
              obtain ⟨ra, rb, rc, rd', re, rf, rg, rh⟩ := ns
              have HSTEP := Lib.hid (show Calls Tryd.prog 41 #[.agg #[.int .u32 st.a, .int .u32 st.b, .int .u32 st.c, .int .u32 st.d, .int .u32 st.e, .int .u32 st.f, .int .u32 st.g, .int .u32 st.h], .slice A' 64 c'] wr.drew fun e w' => e = .returned (.agg #[.int .u32 ra, .int .u32 rb, .int .u32 rc, .int .u32 rd', .int .u32 re, .int .u32 rf, .int .u32 rg, .int .u32 rh]) ∧ Below wr.drew.heap.size wr.drew w' from hstep)
              have h8d : wr.drew.heap[b8]? = some (.cells (s8 st) 80 (0, 0)) := h8
              have c0 := (blk_cell h8d 0).trans (show (s8 st)[0]? = some (.int .u32 st.a) from rfl)
              have c1 := (blk_cell h8d 1).trans (show (s8 st)[1]? = some (.int .u32 st.b) from rfl)
              have c2 := (blk_cell h8d 2).trans (show (s8 st)[2]? = some (.int .u32 st.c) from rfl)
              have c3 := (blk_cell h8d 3).trans (show (s8 st)[3]? = some (.int .u32 st.d) from rfl)
              have c4 := (blk_cell h8d 4).trans (show (s8 st)[4]? = some (.int .u32 st.e) from rfl)
              have c5 := (blk_cell h8d 5).trans (show (s8 st)[5]? = some (.int .u32 st.f) from rfl)
              have c6 := (blk_cell h8d 6).trans (show (s8 st)[6]? = some (.int .u32 st.g) from rfl)
              have c7 := (blk_cell h8d 7).trans (show (s8 st)[7]? = some (.int .u32 st.h) from rfl)
              have HW5 := Lib.hid (show ∀ w5 : World, Below wr.drew.heap.size wr.drew w5 → (w5.heap[b8]? = some (.cells (s8 st) 80 (0, 0)) ∧ Below b8 w2 w5) from fun w5 h5 => ⟨(h5.block b8 (blk_lt h8d)).trans h8d, (below_drew hbl).trans (Below.mono h5 (Nat.le_of_lt (blk_lt h8d)))⟩)
              have hCd : Kd.C (Kd.int .u8) w2 (if c' = 64 then A' else A'.map (·.add 64)) (pd.drop (64 * (j + 1))).length (pd.drop (64 * (j + 1))) := by
                have h := Kd.C_drop (m := 64) (c := c') hC (by rw [hdl]; exact hl64) (by rw [hdl]; exact hc')
                rw [List.drop_drop, show 64 * j + 64 = 64 * (j + 1) by omega] at h
                exact h
              obtain ⟨A2, hA2⟩ : ∃ A2, (if c' = 64 then A' else A'.map (·.add 64)) = A2 := ⟨_, rfl⟩
              have hs1 := fun W => slice_first W A' l c' (by omega)
              have hs2 : ∀ W, (Instr.sliceAt 28 (.slice A' l c') (some (.int .i64 64)) none none).run Tryd.prog W = .ok (.slice (if c' = 64 then A' else A'.map (·.add 64)) (l - 64) (c' - 64)) W := fun W => slice_t W A' l c' 64 hl64
              rw [hA2] at hCd hs2
              have HCD := Lib.hid hCd
              have HNX := Lib.hid hnx
              have HJJ := Lib.hid (show 64 * (j + 1) ≤ LP ∧ LP - 64 * (j + 1) = l - 64 ∧ l - 64 ≤ c' - 64 ∧ l - 64 < l by omega)
              have l0 : (0 : Int) < (l : Int) := by omega
              have l1 : (64 : Int) ≤ (l : Int) := by omega
              have hb8s := HW8.out
              clear hC h8 hbl H hl hdl hst hwd hnx hCw htl hC64 htb hstep hns h8d hCd hA2 hj hc' hb8s
              go_wp2_with fail
              go_region_law ((go_simp; go_at_call 41; (with_reducible refine HSTEP.out.mono ?_); rintro e w5 ⟨rfl, hb5⟩; have H85 := Lib.hid (HW5.out w5 hb5).1; have HB5 := Lib.hid (HW5.out w5 hb5).2; have f0 := blk_frozen H85.out 0; have f1 := blk_frozen H85.out 1; have f2 := blk_frozen H85.out 2; have f3 := blk_frozen H85.out 3; have f4 := blk_frozen H85.out 4; have f5 := blk_frozen H85.out 5; have f6 := blk_frozen H85.out 6; have f7 := blk_frozen H85.out 7; have g0 := (blk_cell H85.out 0).trans (show (s8 st)[0]? = some (.int .u32 st.a) from rfl); have g1 := (blk_cell H85.out 1).trans (show (s8 st)[1]? = some (.int .u32 st.b) from rfl); have g2 := (blk_cell H85.out 2).trans (show (s8 st)[2]? = some (.int .u32 st.c) from rfl); have g3 := (blk_cell H85.out 3).trans (show (s8 st)[3]? = some (.int .u32 st.d) from rfl); have g4 := (blk_cell H85.out 4).trans (show (s8 st)[4]? = some (.int .u32 st.e) from rfl); have g5 := (blk_cell H85.out 5).trans (show (s8 st)[5]? = some (.int .u32 st.f) from rfl); have g6 := (blk_cell H85.out 6).trans (show (s8 st)[6]? = some (.int .u32 st.g) from rfl); have g7 := (blk_cell H85.out 7).trans (show (s8 st)[7]? = some (.int .u32 st.h) from rfl); clear hb5))
              all_goals
                clear c0 c1 c2 c3 c4 c5 c6 c7 f0 f1 f2 f3 f4 f5 f6 f7 g0 g1 g2 g3 g4 g5 g6 g7
                go_wp2_with fail
                refine ⟨⟨j + 1, A2, c' - 64, HJJ.out.1, by rw [HJJ.out.2.1], by rw [HJJ.out.2.1]; exact HJJ.out.2.2.1, Lib.hid ⟨HCD.out, by rw [HNX.out]; exact up8 H85.out, upbelow8 HB5.out (Nat.le_refl _)⟩⟩, HJJ.out.2.2.2⟩
            · have hl0 : l = 0 := by omega
              subst hl0
              have hj2 : j = LP / 64 := by have := HLP.out.2.1; omega
              obtain ⟨st, hst⟩ : ∃ st, stOf pd = st := ⟨_, rfl⟩
              have hwd : st.wd := by rw [← hst]; exact stOf_wd pd
              rw [hj2, ← HLP.out.2.2.2.2.1, hst] at h8
              have HSUM := Lib.hid (show sumP bs = outB st by rw [HLP.out.2.2.2.2.2, hst])
              have HWD := Lib.hid hwd
              have H8 := Lib.hid h8
              have hw8 := HW8.out
              have H14 := Lib.hid ((hbl.block b0 (by omega)).trans H12.out)
              have HB4 := Lib.hid (HB2.out.trans (Below.mono hbl (by omega)))
              have HS4 := Lib.hid (show b8 < wr.heap.size from blk_lt h8)
              clear hC h8 hbl H hl hdl hst hwd hj hc' hlt hj2 hw8
              go_wp2_with fail
              have HN9 := Lib.hid (show (wr.alloc (.cells Z0 41)).heap[wr.heap.size]? = some (.cells (nums .u8 (outRow st 0)).toArray 41 (0, 0)) by rw [heap_alloc_new, show outRow st 0 = List.replicate 32 0 from rfl, HZ0.out])
              have H85 := Lib.hid (blk_alloc H8.out (.cells Z0 41))
              have H15 := Lib.hid (blk_alloc H14.out (.cells Z0 41))
              have HB5 := Lib.hid (HB4.out.alloc (by have := HS4.out; have := HW8.out; omega) (.cells Z0 41))
              obtain ⟨W5, hW5⟩ : ∃ W, wr.alloc (.cells Z0 41) = W := ⟨_, rfl⟩
              rw [hW5] at HN9 H85 H15 HB5 ⊢
              obtain ⟨b9, hb9⟩ : ∃ b, wr.heap.size = b := ⟨_, rfl⟩
              have hs4 := HS4.out
              rw [hb9] at HN9 hs4 ⊢
              have HOR := Lib.hid (show b0 < b8 ∧ b8 < b9 from ⟨HW8.out.2, hs4⟩)
              have HU30 := Lib.hid Tryd.underlying41
              clear hW5 hb9 hs4 hz30
              go_loopw [10] (fun i wx => ∃ k : Nat, k ≤ 8 ∧ i = .int .i64 (k : Int) ∧ Hid (wx.heap[b9]? = some (.cells (nums .u8 (outRow st k)).toArray 41 (0, 0)) ∧ wx.heap[b8]? = some (.cells (s8 st) 80 (0, 0)) ∧ wx.heap[b0]? = some (.cells Z0 41 (0, 0)) ∧ Below b0 w wx)) (fun i _ => (8 - intOf i).toNat)
              case atStart => exact ⟨0, by omega, rfl, Lib.hid ⟨HN9.out, H85.out, H15.out, HB5.out⟩⟩
              case round =>
                obtain ⟨k, hk, rfl, H⟩ := hrel
                obtain ⟨h9, h8, h0, hbl⟩ := H.out
                by_cases hlt : k < 8
                · have hx : Wd (st.at8 k) := by
                    have h := HWD.out
                    match k, hlt with
                    | 0, _ => exact h.1.1
                    | 1, _ => exact h.1.2.1
                    | 2, _ => exact h.1.2.2.1
                    | 3, _ => exact h.1.2.2.2
                    | 4, _ => exact h.2.1
                    | 5, _ => exact h.2.2.1
                    | 6, _ => exact h.2.2.2.1
                    | 7, _ => exact h.2.2.2.2
                  have hg4 := great4 hx
                  have hos := fun a b c d h => out_set st k hlt a b c d h
                  have cx := (blk_cell h8 k).trans (show (s8 st)[k]? = some (.int .u32 (st.at8 k)) by rw [s8_arr]; exact arrF_get _ hlt)
                  have hol := outRow_len st k (by omega)
                  have hcell : ∀ o, o < 32 → ∃ z, wr.cell? ⟨b9, o, none⟩ = some (.int .u8 z) := fun o ho => by
                    refine ⟨(outRow st k)[o]'(by omega), ?_⟩
                    rw [blk_cell h9]
                    simp [nums, show o < (outRow st k).length by omega]
                  obtain ⟨x, hxx⟩ : ∃ x, st.at8 k = x := ⟨_, rfl⟩
                  rw [hxx] at hx hg4 cx
                  obtain ⟨va, hva⟩ : ∃ v, x / 16777216 = v := ⟨_, rfl⟩
                  obtain ⟨ub, hub⟩ : ∃ v, x / 65536 = v := ⟨_, rfl⟩
                  obtain ⟨vb, hvb⟩ : ∃ v, ub % 256 = v := ⟨_, rfl⟩
                  obtain ⟨uc, huc⟩ : ∃ v, x / 256 = v := ⟨_, rfl⟩
                  obtain ⟨vc, hvc⟩ : ∃ v, uc % 256 = v := ⟨_, rfl⟩
                  obtain ⟨vd, hvd⟩ : ∃ v, x % 256 = v := ⟨_, rfl⟩
                  rw [hva, hub, hvb, huc, hvc, hvd] at hg4
                  have x0 : 0 ≤ x := hx.1
                  have x1 : x < 4294967296 := hx.2
                  have wa : IntKind.u8.wrap va = va := by rw [IntKind.wrap_u8]; omega
                  have wb : IntKind.u8.wrap vb = vb := by rw [IntKind.wrap_u8]; omega
                  have wc : IntKind.u8.wrap vc = vc := by rw [IntKind.wrap_u8]; omega
                  have wd : IntKind.u8.wrap vd = vd := by rw [IntKind.wrap_u8]; omega
                  have ma : va % 256 = va := by omega
                  have mb : vb % 256 = vb := by omega
                  have mc : vc % 256 = vc := by omega
                  have md : vd % 256 = vd := by omega
                  obtain ⟨o0, ho0⟩ : ∃ o, 4 * k = o := ⟨_, rfl⟩
                  obtain ⟨za, ca⟩ := hcell o0 (by omega)
                  obtain ⟨zb, cb⟩ := hcell (o0 + 1) (by omega)
                  obtain ⟨zc, cc⟩ := hcell (o0 + 2) (by omega)
                  obtain ⟨zd, cd⟩ := hcell (o0 + 3) (by omega)
                  obtain ⟨o1, ho1⟩ : ∃ o, o0 + 1 = o := ⟨_, rfl⟩
                  obtain ⟨o2, ho2⟩ : ∃ o, o0 + 2 = o := ⟨_, rfl⟩
                  obtain ⟨o3, ho3⟩ : ∃ o, o0 + 3 = o := ⟨_, rfl⟩
                  rw [ho1] at cb
                  rw [ho2] at cc
                  rw [ho3] at cd
                  have e0 : 4 * (k : Int) = (o0 : Int) := by omega
                  have e1 : (o0 : Int) + 1 = (o1 : Int) := by omega
                  have e2 : (o0 : Int) + 2 = (o2 : Int) := by omega
                  have e3 : (o0 : Int) + 3 = (o3 : Int) := by omega
                  have p0 : (o0 : Int) < 32 := by omega
                  have p1 : (o1 : Int) < 32 := by omega
                  have p2 : (o2 : Int) < 32 := by omega
                  have p3 : (o3 : Int) < 32 := by omega
                  have i1 : (k : Int) < 8 := by omega
                  have fr := fun o => blk_frozen h9 o
                  have fa := fr o0
                  have fb := fr o1
                  have fc := fr o2
                  have fd := fr o3
                  have hor := HOR.out
                  have n1 : o1 ≠ o0 := by omega
                  have n2 : o2 ≠ o0 ∧ o2 ≠ o1 := by omega
                  have n3 : o3 ≠ o0 ∧ o3 ≠ o1 ∧ o3 ≠ o2 := by omega
                  have n89 : ¬ (b8 = b9) := by omega
                  have HN := Lib.hid (show ((((wr.setCell ⟨b9, o0, none⟩ (.int .u8 va)).setCell ⟨b9, o1, none⟩ (.int .u8 vb)).setCell ⟨b9, o2, none⟩ (.int .u8 vc)).setCell ⟨b9, o3, none⟩ (.int .u8 vd)).heap[b9]? = some (.cells (nums .u8 (outRow st (k + 1))).toArray 41 (0, 0)) ∧ (∀ i, i ≠ b9 → ((((wr.setCell ⟨b9, o0, none⟩ (.int .u8 va)).setCell ⟨b9, o1, none⟩ (.int .u8 vb)).setCell ⟨b9, o2, none⟩ (.int .u8 vc)).setCell ⟨b9, o3, none⟩ (.int .u8 vd)).heap[i]? = wr.heap[i]?) ∧ Below b0 w ((((wr.setCell ⟨b9, o0, none⟩ (.int .u8 va)).setCell ⟨b9, o1, none⟩ (.int .u8 vb)).setCell ⟨b9, o2, none⟩ (.int .u8 vc)).setCell ⟨b9, o3, none⟩ (.int .u8 vd)) from by
                    have hos2 := hos va vb vc vd (by rw [hxx]; exact hg4)
                    rw [ho0, ho1, ho2, ho3] at hos2
                    refine ⟨?_, fun i hi => ?_, ?_⟩
                    · rw [← hos2]
                      exact blk_set (blk_set (blk_set (blk_set h9 o0 _) o1 _) o2 _) o3 _
                    · exact (Below.heap_setCell _ ⟨b9, o3, none⟩ _ i hi).trans ((Below.heap_setCell _ ⟨b9, o2, none⟩ _ i hi).trans ((Below.heap_setCell _ ⟨b9, o1, none⟩ _ i hi).trans (Below.heap_setCell _ ⟨b9, o0, none⟩ _ i hi)))
                    · exact (((hbl.setCell (p := ⟨b9, o0, none⟩) (show b0 ≤ b9 by omega) _).setCell (p := ⟨b9, o1, none⟩) (show b0 ≤ b9 by omega) _).setCell (p := ⟨b9, o2, none⟩) (show b0 ≤ b9 by omega) _).setCell (p := ⟨b9, o3, none⟩) (show b0 ≤ b9 by omega) _)
                  have H88 := Lib.hid (And.intro h8 h0)
                  clear hx hg4 hos hol hcell hxx fr ho0 ho1 ho2 ho3 h9 h8 h0 hbl H hor
                  go_wp2_with fail
                  have hor := HOR.out
                  refine ⟨⟨k + 1, by omega, by go_num, Lib.hid ⟨HN.out.1, (HN.out.2.1 b8 (by omega)).trans H88.out.1, (HN.out.2.1 b0 (by omega)).trans H88.out.2, HN.out.2.2⟩⟩, by simp only [intOf]; omega⟩
                · obtain rfl : k = 8 := by omega
                  obtain ⟨RA, hRA⟩ : ∃ R, (nums .u8 (sumP bs)).toArray = R := ⟨_, rfl⟩
                  have hfin : nums .u8 (outRow st 8) = nums .u8 (sumP bs) := by
                    rw [HSUM.out, ← greats_8]
                    simp [outRow]
                  have hsl : (nums .u8 (sumP bs)).length = 32 := by simp [nums, sumP_len]
                  have HF := Lib.hid (show wr.heap[b9]? = some (.cells RA 41 (0, 0)) by rw [h9, hfin, hRA])
                  have HRS := Lib.hid (show (Tryd.prog.info? 41).map (·.size) = some RA.size ∧ Z0.size = RA.size ∧ RA.all (·.oneCell') = true by
                    have h32 : RA.size = 32 := by rw [← hRA]; exact hsl
                    refine ⟨by rw [h32]; exact (zero_of_info info32b).2, by rw [h32, ← HZ0.out]; rfl, by rw [← hRA]; exact all_oneCell_toArray (nums_one _ _)⟩)
                  have HRR := Lib.hid hRA
                  have HZ := Lib.hid h0
                  have HBL2 := Lib.hid hbl
                  clear h9 h8 h0 hbl H hRA hfin hsl hk hlt
                  rw [show ((8 : Nat) : Int) = 8 from rfl]
                  go_wp2_with (first | ((with_reducible show wpList _ _ _ (Oper.mk _ (Op.load _ _) _ _ _ _ :: _) _ _); (go_loud (refine wpList_load_row rfl 41 (.tmp 9) rfl b9 rfl 41 RA (0, 0) _ HF.out HU30.out rfl HRS.out.1 ?_))) | ((with_reducible show wpList _ _ _ (Oper.mk _ (Op.store _ _ _) _ _ _ _ :: _) _ _); (go_loud (refine wpList_store_row rfl 41 (.tmp 2) (.tmp 96) rfl b0 RA rfl rfl 41 Z0 HZ.out HRS.out.1 HRS.out.2.1 HRS.out.2.2 ?_))))
                  exact bodyPost_ret (results_cell_row rfl _ _ b0 41 RA (0, 0) _ rfl (setRow_heap _ _ _ _ _ _ HZ.out) HU30.out rfl HRS.out.1) rfl ⟨by rw [HRR.out], by rw [HBB.out.1]; exact below_setRow HBL2.out (Nat.le_refl _) _⟩
end Go.Proofs.YtpjkhecefppamaaDoor.Hand

/- The document's double sum: walked. -/
namespace Go.Proofs.YtpjkhecefppamaaDoor.Hand
open Go Go.RowKit Go.Proofs.YtpjkhecefppamaaDoor.Plain Go.Proofs.YtpjkhecefppamaaDoor.PAll Go.Proofs.YtpjkhecefppamaaDoorW.PrintWords Go.Proofs.YtpjkhecefppamaaDoorW.PrintLast Go.Proofs.YtpjkhecefppamaaDoorW.PrintMore
set_option linter.unusedVariables false
set_option linter.unusedSimpArgs false
set_option maxRecDepth 100000
theorem arr32b : Tryd.prog.underlying 41 = some (.array (Tryd.prog.arrayLen 41) (Tryd.prog.elem 41)) ∧ Tryd.prog.arrayLen 41 = 32 := ⟨by kernel_rfl, by kernel_rfl⟩
theorem slice_all32 (W : World) (g : Nat) : (Instr.sliceAt 41 (.pointer (some ⟨g, 0, none⟩)) none none none).run Tryd.prog W = .ok (.slice (some ⟨g, 0, none⟩) 32 32) W := by
  rw [run_sliceAt_array_all W 41 ⟨g, 0, none⟩ arr32b.1]
  have z : (sizeOf (Tryd.prog.elem 41)).run Tryd.prog W = .ok 1 W := by rfl
  rw [z, arr32b.2]
  rfl
set_option maxHeartbeats 1000000 in
set_option maxRecDepth 100000 in
theorem rtwice_calls (bs : List Int) (w : World) (hl : bs.length ≤ 800000) (hb : ∀ x ∈ bs, 0 ≤ x ∧ x < 256) :
    Calls Tryd.prog 12 #[.string (strOfNums bs)] w fun e w' => e = .returned (.agg (nums .u8 (twiceP bs)).toArray) ∧ Below w.heap.size w w' := by
  have hz30 := (zero_of_info info32b).1
  obtain ⟨Z0, hZ0⟩ : ∃ C, (nums .u8 (List.replicate 32 0)).toArray = C := ⟨_, rfl⟩
  rw [hZ0] at hz30
  have HU30 := Lib.hid Tryd.underlying41
  have HS := Lib.hid (fun W => rsum_calls bs W hl hb)
  obtain ⟨S1, hS1⟩ : ∃ S, sumP bs = S := ⟨_, rfl⟩
  have hl1 : S1.length = 32 := by rw [← hS1]; exact sumP_len _
  have hb1 : ∀ x ∈ S1, 0 ≤ x ∧ x < 256 := by rw [← hS1]; exact sumP_bytes _
  obtain ⟨S2, hS2⟩ : ∃ S, twiceP bs = S := ⟨_, rfl⟩
  have hS2' : sumP S1 = S2 := by rw [← hS2, ← hS1]; rfl
  have hl2 : S2.length = 32 := by rw [← hS2']; exact sumP_len _
  rw [hS1] at HS
  rw [hS2]
  obtain ⟨RA, hRA⟩ : ∃ R, (nums .u8 S1).toArray = R := ⟨_, rfl⟩
  rw [hRA] at HS
  obtain ⟨RB, hRB⟩ : ∃ R, (nums .u8 S2).toArray = R := ⟨_, rfl⟩
  rw [hRB]
  have h32 : ∀ S : List Int, S.length = 32 → (Tryd.prog.info? 41).map (·.size) = some (nums .u8 S).toArray.size ∧ Z0.size = (nums .u8 S).toArray.size ∧ (nums .u8 S).toArray.all (·.oneCell') = true := fun S hS => by
    have h : (nums .u8 S).toArray.size = 32 := by rw [nums_size]; exact hS
    exact ⟨by rw [h]; exact (zero_of_info info32b).2, by rw [h, ← hZ0]; rfl, all_oneCell_toArray (nums_one _ _)⟩
  have HRA := Lib.hid (hRA ▸ h32 S1 hl1)
  have HRB := Lib.hid (hRB ▸ h32 S2 hl2)
  have HS1 := Lib.hid (And.intro hl1 (And.intro hb1 (And.intro hRA (And.intro hS2' hRB))))
  obtain ⟨T, hT⟩ : ∃ T, strOfNums bs = T := ⟨_, rfl⟩
  rw [hT] at HS ⊢
  have HS2 := Lib.hid (fun W => (show Calls Tryd.prog 29 #[.string (strOfNums S1)] W fun e w' => e = .returned (.agg RB) ∧ Below W.heap.size W w' from by
    have h := rsum_calls S1 W (by omega) hb1
    rwa [hS2', hRB] at h))
  obtain ⟨T1, hT1⟩ : ∃ T, strOfNums S1 = T := ⟨_, rfl⟩
  rw [hT1] at HS2
  have HT1 := Lib.hid hT1
  clear hS1 hl1 hb1 hS2 hS2' hl2 hRA hRB h32 hZ0 hT hT1
  go_enter Tryd.func12, Tryd.ntmps12
  go_wp2_with fail
  refine (HS.out _).mono ?_
  rintro e w1 ⟨rfl, hb1⟩
  have HZ1 := Lib.hid ((hb1.block w.heap.size (by rw [World.size_alloc]; omega)).trans (heap_alloc_new w (.cells Z0 41)))
  have HB1 := Lib.hid ((below_alloc (Below.refl w.heap.size w) (.cells Z0 41)).trans (Below.mono hb1 (by rw [World.size_alloc]; omega)))
  have HW1 := Lib.hid (show w.heap.size < w1.heap.size from Nat.lt_of_lt_of_le (by rw [World.size_alloc]; omega) hb1.size)
  have hs := fun W => slice_all32 W w1.heap.size
  have hn := heap_alloc_new w1 (.cells RA 41)
  have hC := C_of_block (pre := []) (post := []) (k := .u8) (ys := S1) (o := 0) (t := 41) (fr := (0, 0)) (w := w1.alloc (.cells RA 41)) (b := w1.heap.size) (by rw [List.nil_append, List.append_nil, HS1.out.2.2.1]; exact hn) rfl (by rw [HS1.out.1]; decide)
  have hcv := Kd.C_string (P := Tryd.prog) (c := 32) Tryd.underlying28 Tryd.underlying5 Tryd.underlying9 hC
  rw [HS1.out.1, HT1.out] at hcv
  have HZ2 := Lib.hid (blk_alloc HZ1.out (.cells RA 41))
  have HB2 := Lib.hid (HB1.out.alloc (Nat.le_of_lt HW1.out) (.cells RA 41))
  clear hb1 hn hC
  go_wp2_with ((with_reducible show wpList _ _ _ (Oper.mk _ (Op.store _ _ _) _ _ _ _ :: _) _ _); (go_loud (refine wpl_store_new rfl 41 (.tmp 3) (.tmp 5) rfl Z0 RA rfl rfl HRA.out.1 HRA.out.2.1 HRA.out.2.2 ?_)))
  refine (HS2.out _).mono ?_
  rintro e w5 ⟨rfl, hb5⟩
  have HZ5 := Lib.hid ((hb5.block w.heap.size (blk_lt HZ2.out)).trans HZ2.out)
  have HB5 := Lib.hid (HB2.out.trans (Below.mono hb5 HB2.out.size))
  clear hb5 HS2 hs hcv
  go_wp2_with ((with_reducible show wpList _ _ _ (Oper.mk _ (Op.store _ _ _) _ _ _ _ :: _) _ _); (go_loud (refine wpList_store_row rfl 41 (.tmp 2) (.tmp 8) rfl w.heap.size RB rfl rfl 41 Z0 HZ5.out HRB.out.1 HRB.out.2.1 HRB.out.2.2 ?_)))
  exact bodyPost_ret (results_cell_row rfl _ _ w.heap.size 41 RB (0, 0) _ rfl (setRow_heap _ _ _ _ _ _ HZ5.out) HU30.out rfl HRB.out.1) rfl ⟨rfl, below_setRow HB5.out (Nat.le_refl _) _⟩
end Go.Proofs.YtpjkhecefppamaaDoor.Hand
