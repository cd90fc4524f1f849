/- Several texts in one. -/
import Derived.Test.YtlmcdkjobdcflaaDoorProg
import Derived.Below
import Derived.Deep.Draws
import Derived.Deep.AppendLies
import Derived.Maps.AppendAt
import Derived.OwnWalk
import Derived.Laws.BytesArg
import Derived.Laws.MakeOwn
import Derived.Laws.OwnMore
import Derived.Deep.OwnRows
import Derived.Tactics
import Derived.Lib.ConvBytes
import Derived.Laws.Slices
import Derived.WalkKit
import Derived.KernelRfl
import Derived.RowKit3
import Derived.Deep.LoopGhost
import Derived.Deep.QuietTactic
import Derived.BigQuiet
import Derived.WideLaws
import Derived.Deep.DeepCutAuto
import Derived.Deep.CutBlock
import Derived.Deep.RegionHeld3
import Derived.Laws.Rows
import Derived.Lib.AppendStr
import Derived.ArgAppend
import Derived.Laws.IdiomCopy
import Derived.OrdersHeld
import Derived.Laws.BitsLemmas
import Derived.RowKit
import Derived.StillTailTactics
import Derived.Test.YtlmcdkjobdcflaaDoorWWords
import Derived.Test.YtlmcdkjobdcflaaDoorWLast
import Derived.Test.YtlmcdkjobdcflaaDoorWMore
import Derived.Lib.Hide
import Derived.Laws.CopyOwn
import Derived.Laws.Tables
import Derived.Test.YtlmcdkjobdcflaaDoorAnyInv
import Derived.RangeFuncCalls
import Derived.TacticsIn
import Derived.OrdersIn
import Derived.Deep.MidRow
import Derived.Test.YtlmcdkjobdcflaaDoorWArr
import Derived.Test.YtlmcdkjobdcflaaDoorArrays
import Derived.Test.YtlmcdkjobdcflaaDoorMerkPlain
import Derived.Outline
import Derived.Deep.WholeRow
import Derived.Deep.DrawnRows
import Derived.Test.YtlmcdkjobdcflaaDoorByteRows
import Derived.Test.YtlmcdkjobdcflaaDoorShaA
import Derived.Test.YtlmcdkjobdcflaaDoorShaB
import Derived.RangeFuncNested
import Derived.RangeFuncBound
import Derived.RangeFuncLeaves
import Derived.Shelf.Abstract
import Derived.Shelf.RegionOpen
import Derived.OwnWalkIn
import Derived.TacticsInMore
import Derived.LoopNIn
import Derived.LoopIn
import Derived.Test.YtlmcdkjobdcflaaDoorRangeOwn
import Derived.RangeFuncFrom
import Derived.Test.YtlmcdkjobdcflaaDoorArrEq
/- Several texts in one. -/
/- Two variables that a region makes and sets in whatever order. -/
namespace Go.Proofs.YtlmcdkjobdcflaaDoor.Hand
open Go Go.RowKit Go.Proofs.YtlmcdkjobdcflaaDoorW.PrintWords Go.Proofs.YtlmcdkjobdcflaaDoorW.PrintLast Go.Proofs.YtlmcdkjobdcflaaDoorW.PrintMore
set_option linter.unusedVariables false
theorem below_setRow2 {B g : Nat} {w0 w : World} (h : Below B w0 w) (hg : B ≤ g) (cs : Array Value) : Below B w0 (w.setRow g cs) :=
  h.trans ⟨rfl, rfl, rfl, by rw [setRow_size]; exact Nat.le_refl _, fun k hk => setRow_other _ _ _ _ (by omega)⟩
theorem wp_alloc {P : Program} {o : Oper} {a : Act} {w : World} {K : Act → World → Prop} {Q : Exit → Act → World → Prop} (t : TypeId) (ho : o.op = .alloc t) (Z : Array Value) (hz : ∀ w, (zeroValue t).run P w = .ok (.agg Z) w)
    (h : K (a.put o.dst (.pointer (some ⟨w.heap.size, 0, none⟩))) (w.alloc (.cells Z t))) : o.wp P a w K Q := by
  unfold Oper.wp execOp
  simp only [ho]
  go_simp
  exact h
theorem act_put3 (a : Act) (s t : Tmp) (x y z : Value) (hst : s ≠ t) : ((a.put (some s) x).put (some t) y).put (some s) z = (a.put (some s) z).put (some t) y := by
  unfold Act.put
  simp only
  rw [Array.setIfInBounds_comm _ _ hst, Array.setIfInBounds_comm _ _ hst]
  simp
theorem act_put2 (a : Act) (s t : Tmp) (x y z : Value) : ((a.put (some s) x).put (some t) y).put (some t) z = (a.put (some s) x).put (some t) z := by
  unfold Act.put
  simp
/-- Two variables, made and set in whatever order: what has come up (made 1, made 2, set 1, set 2). -/
structure TV (T : TypeId) (n base : Nat) (C1 C2 : Array Value) (W0 : World) (m1 m2 s1 s2 : Bool) (v1 v2 : Value) (W : World) : Prop where
  below : Below base W0 W
  size : base ≤ W.heap.size
  one : m1 = true → ∃ g C, v1 = .pointer (some ⟨g, 0, none⟩) ∧ base ≤ g ∧ W.heap[g]? = some (.cells C T (0, 0)) ∧ C.size = n ∧ (s1 = true → C = C1)
  two : m2 = true → ∃ g C, v2 = .pointer (some ⟨g, 0, none⟩) ∧ base ≤ g ∧ W.heap[g]? = some (.cells C T (0, 0)) ∧ C.size = n ∧ (s2 = true → C = C2)
  apart : m1 = true → m2 = true → v1 ≠ v2
  set1 : s1 = true → m1 = true
  set2 : s2 = true → m2 = true
theorem TV.swap {T : TypeId} {n base : Nat} {C1 C2 : Array Value} {W0 W : World} {m1 m2 s1 s2 : Bool} {v1 v2 : Value} (h : TV T n base C1 C2 W0 m1 m2 s1 s2 v1 v2 W) : TV T n base C2 C1 W0 m2 m1 s2 s1 v2 v1 W :=
  ⟨h.below, h.size, h.two, h.one, fun a b e => h.apart b a e.symm, h.set2, h.set1⟩
theorem TV.make1 {T : TypeId} {n base : Nat} {C1 C2 Z : Array Value} {W0 W : World} {m2 s1 s2 : Bool} {v1 v2 : Value} (h : TV T n base C1 C2 W0 false m2 s1 s2 v1 v2 W) (hz : Z.size = n) : TV T n base C1 C2 W0 true m2 s1 s2 (.pointer (some ⟨W.heap.size, 0, none⟩)) v2 (W.alloc (.cells Z T)) := by
  have hs1 : s1 = false := by
    cases s1 with
    | false => rfl
    | true => exact absurd (h.set1 rfl) (by simp)
  subst hs1
  refine ⟨h.below.alloc h.size _, by (rw [World.size_alloc]; have := h.size; omega), fun _ => ⟨_, Z, rfl, h.size, heap_alloc_new W _, hz, (fun e => by cases e)⟩, fun hm => ?_, fun _ hm e => ?_, (fun e => by cases e), h.set2⟩
  · obtain ⟨g, C, e, hg, hC, r⟩ := h.two hm
    exact ⟨g, C, e, hg, blk_alloc hC _, r⟩
  · obtain ⟨g, C, e2, hg, hC, r⟩ := h.two hm
    rw [e2] at e
    have := blk_lt hC
    injection e with e
    injection e with e
    injection e with e
    omega
theorem TV.set1_ {T : TypeId} {n base : Nat} {C1 C2 : Array Value} {W0 W : World} {m2 s1 s2 : Bool} {v1 v2 : Value} (h : TV T n base C1 C2 W0 true m2 s1 s2 v1 v2 W) (hn : C1.size = n) : ∃ g C, v1 = .pointer (some ⟨g, 0, none⟩) ∧ W.heap[g]? = some (.cells C T (0, 0)) ∧ C.size = C1.size ∧ TV T n base C1 C2 W0 true m2 true s2 v1 v2 (W.setRow g C1) := by
  obtain ⟨g, C, e, hg, hC, hs, r⟩ := h.one rfl
  refine ⟨g, C, e, hC, by rw [hs, hn], below_setRow2 h.below hg _, by (rw [setRow_size]; exact h.size), fun _ => ⟨g, C1, e, hg, setRow_heap _ _ _ _ _ _ hC, hn, fun _ => rfl⟩, fun hm => ?_, h.apart, fun _ => rfl, h.set2⟩
  obtain ⟨g2, D, e2, hg2, hD, r2⟩ := h.two hm
  have hne : g2 ≠ g := by
    intro e3
    exact h.apart rfl hm (by rw [e, e2, e3])
  exact ⟨g2, D, e2, hg2, by rw [setRow_other _ _ _ _ hne]; exact hD, r2⟩
end Go.Proofs.YtlmcdkjobdcflaaDoor.Hand

/- Regions inside a round of a range over a function: walked as anywhere. -/
namespace Go.Proofs.YtlmcdkjobdcflaaDoor.Hand
open Go Go.RowKit
set_option linter.unusedVariables false
variable {P : Program} {Q : Exit → Act → World → Prop} {l n : Nat}
theorem opIn_of_wp {o : Oper} {a : Act} {w : World} {K : Act → World → Prop} (hd : ∀ c, o.op ≠ .defer c) (h : o.wp P a w K Q) : o.wpIn (Fence.wide.inRound l) n P a w K Q := by
  refine ⟨fun _ _ => trivial, ?_⟩
  rw [show Oper.semAt (Fence.wide.inRound l).round a.eval o = execOp a.eval o from Oper.semAt_eq _ _ _ hd]
  unfold Oper.wp at h
  generalize (execOp a.eval o).run P w = r at h ⊢
  cases r with
  | ok x w' =>
    cases x with
    | value v => exact h
    | skip => exact h
    | defer d => exact h
    | enter f args => exact ⟨(fun e => by cases e), callsIn_wide.2 h⟩
    | row r args =>
      refine ⟨(fun e => by cases e), fun c cs _ => ?_⟩
      obtain ⟨v, w2, hr, hs⟩ := h c cs
      exact ⟨v, w2, hr, stepsIn_wide.2 hs⟩
    | _ => exact h.elim
  | halt x w' =>
    cases x with
    | panic v => exact h
    | _ => exact h.elim
/-- No defer statement. -/
def noDefer (o : Oper) : Bool := match o.op with | .defer _ => false | _ => true
theorem noDefer_of {o : Oper} (h : noDefer o = true) : ∀ c, o.op ≠ .defer c := by
  intro c e
  unfold noDefer at h
  rw [e] at h
  cases h
theorem wpOpIn_of {ops : Array Oper} {i : Nat} {a : Act} {w : World} {K K' : Act → World → Prop} (hn : ops.toList.all noDefer = true) (hQ : ¬ LetsOut Q) (hK : ∀ a w, K a w → K' a w) (h : wpOp P ops Q i K a w) : wpOpIn (Fence.wide.inRound l) n P ops Q i K' a w := by
  unfold wpOp at h
  unfold wpOpIn
  cases ho : ops[i]? with
  | none =>
    rw [ho] at h
    exact hK _ _ h
  | some o =>
    rw [ho] at h
    simp only at h ⊢
    by_cases hw : Region.wanted o (yielded ops a.tmps) = true
    · rw [if_pos hw] at h ⊢
      have hm : o ∈ ops.toList := by
        obtain ⟨hl, e⟩ := Array.getElem?_eq_some_iff.1 ho
        rw [← e]
        exact Array.getElem_mem_toList hl
      exact Oper.wpIn_mono hK (opIn_of_wp (noDefer_of (List.all_eq_true.1 hn o hm)) (h.resolve_right (fun x => hQ x.2)))
    · rw [if_neg hw] at h ⊢
      exact ⟨fun _ _ => trivial, hK _ _ h⟩
theorem wpAnyIn_of {ops : Array Oper} (hn : ops.toList.all noDefer = true) (hQ : ¬ LetsOut Q) {md : Region.Mode} : ∀ (fuel : Nat) (listed : Array Bool) (a : Act) (w : World), wpAny P md ops Q fuel listed a w → wpAnyIn (Fence.wide.inRound l) n P md ops Q fuel listed a w
  | 0, _, _, _, h => h
  | fuel + 1, listed, a, w, h => ⟨h.1, fun i hi => wpOpIn_of hn hQ (fun a' w' h' => wpAnyIn_of hn hQ fuel _ a' w' h') (h.2 i hi)⟩
theorem wpListIn_of {ops : Array Oper} (hQ : ¬ LetsOut Q) : ∀ (L : List Oper) (a : Act) (w : World), L.all noDefer = true → wpList P ops Q L a w → wpListIn (Fence.wide.inRound l) n P ops Q L a w
  | [], _, _, _, h => h
  | o :: L, a, w, hn, h => by
    have hn1 : noDefer o = true ∧ L.all noDefer = true := by simpa using hn
    have ih : ∀ a' w', wpList P ops Q L a' w' → wpListIn (Fence.wide.inRound l) n P ops Q L a' w' := fun a' w' h' => wpListIn_of hQ L a' w' hn1.2 h'
    unfold wpList at h
    unfold wpListIn
    by_cases hw : Region.wanted o (yielded ops a.tmps) = true
    · rw [if_pos hw] at h ⊢
      exact Oper.wpIn_mono ih (opIn_of_wp (noDefer_of hn1.1) (h.resolve_right (fun x => hQ x.2)))
    · rw [if_neg hw] at h ⊢
      exact ⟨fun _ _ => trivial, ih _ _ h⟩
/-- A region that draws, in a round. -/
theorem wpIn_round_any {id : Nat} {ops : Array Oper} {a : Act} {w : World} (hm : P.follows .mixedOrders = true) (hn : ops.toList.all noDefer = true) (hQ : ¬ LetsOut Q)
    (h : wpAny P .any ops Q ops.size (Array.replicate ops.size false) a w.drew) : (Code.region id ops true).wpIn (Fence.wide.inRound l) n P Q a w :=
  wpIn_region_any hm (wpAnyIn_of hn hQ _ _ _ _ h)
/-- A region that doesn't. -/
theorem wpIn_round_list {id : Nat} {L : List Oper} {a : Act} {w : World} (hn : L.all noDefer = true) (hQ : ¬ LetsOut Q) (h : wpList P L.toArray Q L a w) : (Code.region id L.toArray false).wpIn (Fence.wide.inRound l) n P Q a w :=
  wpIn_region_lit (wpListIn_of hQ L a w hn h)
/-- Outside of any round. -/
theorem opIn_of_wp0 {o : Oper} {a : Act} {w : World} {K : Act → World → Prop} (h : o.wp P a w K Q) : o.wpIn Fence.wide n P a w K Q := by
  refine ⟨fun _ _ => trivial, ?_⟩
  rw [show Oper.semAt Fence.wide.round a.eval o = execOp a.eval o from rfl]
  unfold Oper.wp at h
  generalize (execOp a.eval o).run P w = r at h ⊢
  cases r with
  | ok x w' =>
    cases x with
    | value v => exact h
    | skip => exact h
    | defer d => exact h
    | enter f args => exact ⟨(fun e => by cases e), callsIn_wide.2 h⟩
    | row r args =>
      refine ⟨(fun e => by cases e), fun c cs _ => ?_⟩
      obtain ⟨v, w2, hr, hs⟩ := h c cs
      exact ⟨v, w2, hr, stepsIn_wide.2 hs⟩
    | _ => exact h.elim
  | halt x w' =>
    cases x with
    | panic v => exact h
    | _ => exact h.elim
theorem wpListIn_of0 {ops : Array Oper} (hQ : ¬ LetsOut Q) : ∀ (L : List Oper) (a : Act) (w : World), wpList P ops Q L a w → wpListIn Fence.wide n P ops Q L a w
  | [], _, _, h => h
  | o :: L, a, w, h => by
    have ih : ∀ a' w', wpList P ops Q L a' w' → wpListIn Fence.wide n P ops Q L a' w' := fun a' w' h' => wpListIn_of0 hQ L a' w' h'
    unfold wpList at h
    unfold wpListIn
    by_cases hw : Region.wanted o (yielded ops a.tmps) = true
    · rw [if_pos hw] at h ⊢
      exact Oper.wpIn_mono ih (opIn_of_wp0 (h.resolve_right (fun x => hQ x.2)))
    · rw [if_neg hw] at h ⊢
      exact ⟨fun _ _ => trivial, ih _ _ h⟩
end Go.Proofs.YtlmcdkjobdcflaaDoor.Hand

/- Rows of hashes: read, and laid in a block. -/
namespace Go.Proofs.YtlmcdkjobdcflaaDoor.Hand
open Go Go.RowKit Go.Proofs.YtlmcdkjobdcflaaDoor.Plain Go.Proofs.YtlmcdkjobdcflaaDoorW.PrintWords Go.Proofs.YtlmcdkjobdcflaaDoorW.PrintLast Go.Proofs.YtlmcdkjobdcflaaDoorW.PrintMore
set_option linter.unusedVariables false
set_option linter.unusedSimpArgs false
/-- A hash, as an element of a row. -/
abbrev kH : Kd (List Int) := Kd.arr 32 (Kd.int .u8) (by decide)
theorem kH_sz : kH.sz = 32 := rfl
theorem kH_M {w : World} {base : Nat} {ok : Nat → Prop} {p : List Int} (h : p.length = 32) : kH.M w base ok p (nums .u8 p) := Kd.arr_of_cells h
theorem kH_K {w : World} {p : List Int} {cs : List Value} (h : kH.K w p cs) : p.length = 32 ∧ cs = nums .u8 p := Kd.arr_cells h
theorem kH_of {w : World} {p : List Int} (h : p.length = 32) : kH.K w p (nums .u8 p) := kH.K_of_M (kH_M (base := 0) (ok := fun _ => True) h)
theorem addr_of_cell {w : World} {ad : Addr} {v : Value} (h : w.cell? ad = some v) : ad = ⟨ad.block, ad.off, none⟩ := by
  obtain ⟨b, o, s⟩ := ad
  cases s with
  | none => rfl
  | some s =>
    unfold World.cell? at h
    split at h
    · simp at h
    · cases h
theorem nums_len (k : IntKind) (l : List Int) : (nums k l).length = l.length := by simp [nums]
/-- The hashes of a row that is read. -/
theorem C_hash {w : World} {A : Option Addr} {xs : List (List Int)} (h : Kd.C kH w A xs.length xs) (h0 : 0 < xs.length) : ∃ b o, A = some ⟨b, o, none⟩ ∧ b < w.heap.size ∧ ∀ i, i < xs.length → w.rangeAt b (o + i * 32) (nums .u8 (rdH xs i)) ∧ (rdH xs i).length = 32 := by
  obtain ⟨_, _, h3⟩ := h
  obtain ⟨ad, e, hc⟩ := h3 h0
  have hall : ∀ i, i < xs.length → ∀ (j : Nat) v, (nums .u8 (rdH xs i))[j]? = some v → w.cell? (ad.add (i * 32 + j)) = some v := by
    intro i hi j v hj
    obtain ⟨c, hl, hK, hcell⟩ := hc i xs[i] (List.getElem?_eq_getElem hi)
    obtain ⟨h32, rfl⟩ := kH_K hK
    rw [rdH_eq hi] at hj
    exact hcell j v hj
  have hlen : ∀ i, i < xs.length → (rdH xs i).length = 32 := by
    intro i hi
    obtain ⟨c, hl, hK, hcell⟩ := hc i xs[i] (List.getElem?_eq_getElem hi)
    rw [rdH_eq hi]
    exact (kH_K hK).1
  have hz : w.cell? ad = some (.int .u8 (rd (rdH xs 0) 0)) := by
    have := hall 0 h0 0 (.int .u8 (rd (rdH xs 0) 0)) (by
      have h32 := hlen 0 h0
      simp [nums, rd, List.getElem?_eq_getElem (show 0 < (rdH xs 0).length by omega)])
    simpa [Addr.add] using this
  have had := addr_of_cell hz
  refine ⟨ad.block, ad.off, by rw [e]; exact congrArg some had, block_lt_of_cell hz, fun i hi => ⟨fun j v hj => ?_, hlen i hi⟩⟩
  have h2 := hall i hi j v hj
  rw [had, Addr.add_mid] at h2
  rw [Nat.add_assoc]
  exact h2
/-- A row of hashes out of its cells. -/
theorem C_of_ranges {w : World} {b o : Nat} {xs : List (List Int)} (h : ∀ i, i < xs.length → w.rangeAt b (o + i * 32) (nums .u8 (rdH xs i))) (h32 : ∀ p ∈ xs, p.length = 32) (hm : xs.length ≤ 9223372036854775807) : Kd.C kH w (some ⟨b, o, none⟩) xs.length xs := by
  refine ⟨rfl, hm, fun _ => ⟨⟨b, o, none⟩, rfl, fun i p hi => ?_⟩⟩
  obtain ⟨hl, rfl⟩ := List.getElem?_eq_some_iff.1 hi
  refine ⟨nums .u8 xs[i], by rw [nums_len]; exact h32 _ (List.getElem_mem hl), kH_of (h32 _ (List.getElem_mem hl)), fun j v hj => ?_⟩
  rw [Addr.add_mid]
  have := h i hl j v (by rw [rdH_eq hl]; exact hj)
  rw [Nat.add_assoc] at this
  exact this
/-- A block of hashes. -/
def hcs (xs : List (List Int)) : List Value := (xs.map (nums .u8)).flatten
theorem hcs_len {xs : List (List Int)} (h : ∀ p ∈ xs, p.length = 32) : (hcs xs).length = xs.length * 32 := by
  induction xs with
  | nil => rfl
  | cons p xs ih =>
    have h1 := h p (by simp)
    have h2 := ih (fun q hq => h q (by simp [hq]))
    simp only [hcs, List.map_cons, List.flatten_cons, List.length_append, nums_len, List.length_cons] at *
    omega
theorem hcs_get {xs : List (List Int)} (h : ∀ p ∈ xs, p.length = 32) : ∀ (i j : Nat) v, i < xs.length → (nums .u8 (rdH xs i))[j]? = some v → (hcs xs)[i * 32 + j]? = some v := by
  induction xs with
  | nil => intro i j v hi; simp at hi
  | cons p xs ih =>
    intro i j v hi hj
    have h1 := h p (by simp)
    have hlt := (List.getElem?_eq_some_iff.1 hj).1
    have e : hcs (p :: xs) = nums .u8 p ++ hcs xs := rfl
    rw [e]
    cases i with
    | zero =>
      have hj2 : (nums .u8 p)[j]? = some v := hj
      rw [Nat.zero_mul, Nat.zero_add, List.getElem?_append_left (List.getElem?_eq_some_iff.1 hj2).1]
      exact hj2
    | succ i =>
      have hj2 : (nums .u8 (rdH xs i))[j]? = some v := by simpa [rdH] using hj
      rw [List.getElem?_append_right (by rw [nums_len, h1]; omega), nums_len, h1, show (i + 1) * 32 + j - 32 = i * 32 + j by omega]
      exact ih (fun q hq => h q (by simp [hq])) i j v (by simpa using hi) hj2
theorem C_of_hcs {w : World} {b : Nat} {t : TypeId} {fr : Nat × Nat} {xs : List (List Int)} (hb : w.heap[b]? = some (.cells (hcs xs).toArray t fr)) (h32 : ∀ p ∈ xs, p.length = 32) (hm : xs.length ≤ 9223372036854775807) : Kd.C kH w (some ⟨b, 0, none⟩) xs.length xs := by
  refine C_of_ranges (fun i hi j v hj => ?_) h32 hm
  rw [cell_of_row w b _ _ t fr hb, List.getElem?_toArray, Nat.zero_add]
  exact hcs_get h32 i j v hi hj
end Go.Proofs.YtlmcdkjobdcflaaDoor.Hand

/- The level above: walked. -/
namespace Go.Proofs.YtlmcdkjobdcflaaDoor.Hand
open Go Go.RowKit Go.Proofs.YtlmcdkjobdcflaaDoor.Plain Go.Proofs.YtlmcdkjobdcflaaDoor.PAll Go.Proofs.YtlmcdkjobdcflaaDoorW.PrintWords Go.Proofs.YtlmcdkjobdcflaaDoorW.PrintLast Go.Proofs.YtlmcdkjobdcflaaDoorW.PrintMore
set_option linter.unusedVariables false
set_option linter.unusedSimpArgs false
set_option maxRecDepth 100000
attribute [local go_sem ↓] Go.wp_at_zero Go.wp_at_succ
attribute [-go_sem] loadVar storeVar Instr.buildSlice
/-- A hash's cells. -/
def hv (p : List Int) : Array Value := (nums .u8 p).toArray
theorem hv_size {p : List Int} (h : p.length = 32) : (hv p).size = 32 := by simp [hv, nums_len, h]
theorem hv_one (p : List Int) : (hv p).all (·.oneCell') = true := all_oneCell_toArray (nums_one _ _)
theorem infoH3 : (Tryd.prog.info? 25).map (fun i => (i.zero, i.size, i.bytes)) = some (some (.agg (nums .u8 (List.replicate 32 0)).toArray), 32, 32) := by kernel_rfl
theorem range_below {w u : World} {b o : Nat} {cs : List Value} (h : Below w.heap.size w u) (hb : b < w.heap.size) (hr : w.rangeAt b o cs) : u.rangeAt b o cs := fun j v hj => by
  rw [h.cell (p := ⟨b, o + j, none⟩) hb]
  exact hr j v hj
theorem there_blk {w : World} {b n : Nat} {t : TypeId} {C : Array Value} (h : w.heap[b]? = some (.cells C t (0, 0))) (hn : C.size = n) : w.there b 0 n := fun j hj => by
  rw [blk_cell h, blk_frozen h]
  simp [hn, hj]
theorem arrH : Tryd.prog.underlying 25 = some (.array (Tryd.prog.arrayLen 25) (Tryd.prog.elem 25)) ∧ Tryd.prog.arrayLen 25 = 32 := ⟨by kernel_rfl, by kernel_rfl⟩
theorem slice_allH (W : World) (g : Nat) : (Instr.sliceAt 25 (.pointer (some ⟨g, 0, none⟩)) none none none).run Tryd.prog W = .ok (.slice (some ⟨g, 0, none⟩) 32 32) W := by
  rw [run_sliceAt_array_all W 25 ⟨g, 0, none⟩ arrH.1]
  have z : (sizeOf (Tryd.prog.elem 25)).run Tryd.prog W = .ok 1 W := by rfl
  rw [z, arrH.2]
  rfl
theorem list32 {α : Type} (l : List α) (h : l.length = 32) : ∃ x0 x1 x2 x3 x4 x5 x6 x7 x8 x9 x10 x11 x12 x13 x14 x15 x16 x17 x18 x19 x20 x21 x22 x23 x24 x25 x26 x27 x28 x29 x30 x31, l = [x0, x1, x2, x3, x4, x5, x6, x7, x8, x9, x10, x11, x12, x13, x14, x15, x16, x17, x18, x19, x20, x21, x22, x23, x24, x25, x26, x27, x28, x29, x30, x31] := by
  match l, h with
  | [x0, x1, x2, x3, x4, x5, x6, x7, x8, x9, x10, x11, x12, x13, x14, x15, x16, x17, x18, x19, x20, x21, x22, x23, x24, x25, x26, x27, x28, x29, x30, x31], _ => exact ⟨x0, x1, x2, x3, x4, x5, x6, x7, x8, x9, x10, x11, x12, x13, x14, x15, x16, x17, x18, x19, x20, x21, x22, x23, x24, x25, x26, x27, x28, x29, x30, x31, rfl⟩
theorem run_hash1 (p : List Int) (h : p.length = 32) (W : World) : (Instr.buildSlice 22 1 #[(0, .agg (nums .u8 p).toArray)]).run Tryd.prog W = .ok (.slice (some ⟨W.heap.size, 0, none⟩) 1 1) (W.alloc (.cells (nums .u8 p).toArray 25)) := by
  obtain ⟨x0, x1, x2, x3, x4, x5, x6, x7, x8, x9, x10, x11, x12, x13, x14, x15, x16, x17, x18, x19, x20, x21, x22, x23, x24, x25, x26, x27, x28, x29, x30, x31, rfl⟩ := list32 p h
  kernel_rfl
theorem run_build2 (ga gb : Nat) (W : World) : (Instr.buildSlice 62 2 #[(0, .slice (some ⟨ga, 0, none⟩) 32 32), (1, .slice (some ⟨gb, 0, none⟩) 32 32)]).run Tryd.prog W = .ok (.slice (some ⟨W.heap.size, 0, none⟩) 2 2) (W.alloc (.cells #[.slice (some ⟨ga, 0, none⟩) 32 32, .slice (some ⟨gb, 0, none⟩) 32 32] 33)) := by kernel_rfl
theorem make_hashes (m : Nat) (hm : m ≤ 1000000) : ∃ MC : Array Value, (∀ W : World, (Instr.makeSlice 22 (.int .i64 0) (.int .i64 (m : Int))).run Tryd.prog W = .ok (.slice (some ⟨W.heap.size, 0, none⟩) 0 m) (W.alloc (.cells MC 25))) ∧ ∀ W : World, Kd.R kH 25 (W.alloc (.cells MC 25)) W.heap.size (fun _ => True) (.slice (some ⟨W.heap.size, 0, none⟩) 0 m) [] := by
  obtain ⟨I, hI, hzz⟩ := Option.map_eq_some_iff.1 infoH3
  simp only [Prod.mk.injEq] at hzz
  refine ⟨madeCells (Value.agg (nums .u8 (List.replicate 32 0)).toArray).cells (m * 32), fun W => ?_, fun W => ⟨fun _ _ => trivial, [], ?_, Reps.none _ _⟩⟩
  · have h := run_make (P := Tryd.prog) W 22 25 I _ Tryd.underlying22 hI hzz.1 .i64 .i64 0 (m : Int) (by omega) (by omega) (by rw [hzz.2.2]; omega) (by omega)
    rw [hzz.2.1] at h
    exact h
  · exact World.ownsRow_made W _ m (Nat.le_refl _) (by unfold maxLen; omega) (size_madeCells _ _)
set_option maxHeartbeats 2000000 in
theorem above_calls (A : Option Addr) (n c : Nat) (xs : List (List Int)) (w : World) (hn : n = xs.length) (hr : Kd.C kH w A n xs) (hc : n ≤ c) (hl : n ≤ 100000) (hH : Hs xs) (hK : KT w) :
    Calls Tryd.prog 23 #[.slice A n c] w fun e w' => ∃ v, e = .returned v ∧ Kd.R kH 25 w' w.heap.size (fun _ => True) v (aboveP xs) ∧ Below w.heap.size w w' := by
  obtain ⟨m, hm⟩ : ∃ m, (n + 1) / 2 = m := ⟨_, rfl⟩
  obtain ⟨MC, hmk, hR0⟩ := make_hashes m (by omega)
  have hdv : ((n : Int) + 1) / 2 = (m : Int) := by omega
  have HR := Lib.hid hr
  have HN := Lib.hid hn
  have HM := Lib.hid hm
  have HH := Lib.hid hH
  have HK := Lib.hid hK
  have HR0 := Lib.hid hR0
  have HZ := (zero_of_info infoHash).1
  obtain ⟨Z, hZ⟩ : ∃ C, (nums .u8 (List.replicate 32 0)).toArray = C := ⟨_, rfl⟩
  rw [hZ] at HZ
  have hZ32 : Z.size = 32 := by rw [← hZ]; rfl
  have HZ0 := Lib.hid hZ
  clear hr hn hH hK hm hR0 hZ
  go_enter Tryd.func23, Tryd.ntmps23
  go_wp2_with fail
  clear hmk hdv
  have HB0 := Lib.hid (below_alloc (Below.refl w.heap.size w) (.cells MC 25))
  have HRI := Lib.hid (HR0.out w)
  go_loopw [3, 4] (fun v i wr => ∃ k : Nat, k ≤ m ∧ i = .int .i64 ((2 * k : Nat) : Int) ∧ Hid (Kd.R kH 25 wr w.heap.size (fun _ => True) v ((aboveP xs).take k) ∧ Below w.heap.size w wr)) (fun _ i _ => (n + 2 - (intOf i).toNat))
  case atStart => exact ⟨0, Nat.zero_le _, rfl, Lib.hid ⟨HRI.out, HB0.out⟩⟩
  case round =>
    obtain ⟨k, hk, rfl, H⟩ := hrel
    obtain ⟨hR, hB⟩ := H.out
    by_cases hlt : 2 * k < n
    · obtain ⟨j, hj⟩ : ∃ j, min (2 * k + 1) (n - 1) = j := ⟨_, rfl⟩
      have hjn : j < n := by omega
      have hpos : 0 < xs.length := by have := HN.out; omega
      obtain ⟨b, o, rfl, hbl, hrg⟩ := C_hash (by rw [← HN.out]; exact HR.out) hpos
      have hp := (hrg (2 * k) (by rw [← HN.out]; exact hlt))
      have hq := (hrg j (by rw [← HN.out]; exact hjn))
      obtain ⟨p, hpe⟩ : ∃ p, rdH xs (2 * k) = p := ⟨_, rfl⟩
      obtain ⟨q, hqe⟩ : ∃ p, rdH xs j = p := ⟨_, rfl⟩
      rw [hpe] at hp
      rw [hqe] at hq
      obtain ⟨i0, hi0⟩ : ∃ i, 2 * k = i := ⟨_, rfl⟩
      rw [hi0] at hp hlt ⊢
      have g1 : (0 : Int) ≤ (i0 : Int) := by omega
      have g2 : (i0 : Int) < (n : Int) := by omega
      have g3 : (0 : Int) ≤ (j : Int) := by omega
      have g4 : (j : Int) < (n : Int) := by omega
      have hmin : (if (n : Int) - 1 < (i0 : Int) + 1 then (n : Int) - 1 else (i0 : Int) + 1) = (j : Int) := by split <;> omega
      obtain ⟨P, hP⟩ : ∃ P, nums .u8 p = P := ⟨_, rfl⟩
      obtain ⟨Q, hQ⟩ : ∃ P, nums .u8 q = P := ⟨_, rfl⟩
      have hPl : P.length = 32 := by rw [← hP, nums_len]; exact hp.2
      have hQl : Q.length = 32 := by rw [← hQ, nums_len]; exact hq.2
      rw [hP] at hp
      rw [hQ] at hq
      have hS : ∀ u : World, Below w.heap.size w u → u.rangeAt b (o + i0 * 32) P ∧ u.rangeAt b (o + j * 32) Q := fun u hu => ⟨range_below hu hbl hp.1, range_below hu hbl hq.1⟩
      have hu := Tryd.underlying25
      have hi1 : (Tryd.prog.info? 25).map (·.size) = some P.length := by rw [hPl]; exact (zero_of_info infoHash).2
      have hi2 : (Tryd.prog.info? 25).map (·.size) = some Q.length := by rw [hQl]; exact (zero_of_info infoHash).2
      have hP32 : P.toArray.size = 32 := by simpa using hPl
      have hQ32 : Q.toArray.size = 32 := by simpa using hQl
      have hi1' : (Tryd.prog.info? 25).map (·.size) = some P.toArray.size := by simpa using hi1
      have hi2' : (Tryd.prog.info? 25).map (·.size) = some Q.toArray.size := by simpa using hi2
      have HS := Lib.hid hS
      have HB := Lib.hid hB
      have HRR := Lib.hid hR
      have HP := Lib.hid (And.intro hP hPl)
      have HQ := Lib.hid (And.intro hQ hQl)
      have HPQ := Lib.hid (And.intro hpe (And.intro hqe hj))
      have hp2 := HH.out.any (2 * k)
      rw [hpe] at hp2
      have hq2 := HH.out.any j
      rw [hqe] at hq2
      have HPL := Lib.hid (And.intro hp2.1 hq2.1)
      have HY := Lib.hid (show ∀ ys ∈ [p, q], ∀ x ∈ ys, 0 ≤ x ∧ x < 256 from fun ys hy => by
        simp only [List.mem_cons, List.not_mem_nil, or_false] at hy
        rcases hy with rfl | rfl
        · exact hp2.2
        · exact hq2.2)
      have HYL := Lib.hid (show [p, q].flatten.length ≤ 900000 by simp [hp2.1, hq2.1])
      clear hS hB hR hp hq hrg H hpos hP hQ hPl hQl hj hpe hqe hp2 hq2
      go_wp2_with fail
      have hw1 : IntKind.i64.wrap ((i0 : Int) + 1) = (i0 : Int) + 1 := IntWalk.i64_in _ (by omega)
      have hw2 : IntKind.i64.wrap ((n : Int) - 1) = (n : Int) - 1 := IntWalk.i64_in _ (by omega)
      have ho1 : ∀ v ∈ P, v.oneCell' = true := by rw [← HP.out.1]; exact nums_one _ _
      have ho2 : ∀ v ∈ Q, v.oneCell' = true := by rw [← HQ.out.1]; exact nums_one _ _
      have hHeld := HS.out _ (below_drew HB.out)
      refine wp_region_held (S := fun u => u.rangeAt b (o + i0 * 32) P ∧ u.rangeAt b (o + j * 32) Q) (by kernel_rfl) ?_
      change wpAnyH _ _ _ _ _ _ _ _ (World.drew _)
      refine wpAnyH_take (i := 0) (oi := ({ dst := some 18, op := Op.move (Operand.tmp 0), type := 22, pos := "merkle.go:15", after := #[], guard := none } : Oper)) (v := .slice (some ⟨b, o, none⟩) n c) rfl (by kernel_rfl) (by kernel_rfl) (by kernel_rfl) (fun _ _ _ h => h) (Or.inl ⟨by rfl, fun w hSw => by go_simp⟩) hHeld ?_
      simp only [Act.put, List.setIfInBounds_toArray, List.set_cons_zero, List.set_cons_succ]
      refine wpAnyH_take (i := 1) (oi := ({ dst := some 19, op := Op.move (Operand.tmp 4), type := 3, pos := "merkle.go:15", after := #[], guard := none } : Oper)) (v := .int .i64 (i0 : Int)) rfl (by kernel_rfl) (by kernel_rfl) (by kernel_rfl) (fun _ _ _ h => h) (Or.inl ⟨by rfl, fun w hSw => by go_simp⟩) hHeld ?_
      simp only [Act.put, List.setIfInBounds_toArray, List.set_cons_zero, List.set_cons_succ]
      refine wpAnyH_take (i := 2) (oi := ({ dst := some 20, op := Op.indexAddr 22 (Operand.tmp 18) (Operand.tmp 19), type := 0, pos := "merkle.go:15", after := #[{ on := 0, ground := Ground.data }, { on := 1, ground := Ground.data }], guard := none } : Oper)) (v := .pointer (some ⟨b, o + i0 * 32, none⟩)) rfl (by kernel_rfl) (by kernel_rfl) (by kernel_rfl) (fun _ _ _ h => h) (Or.inl ⟨by rfl, fun w hSw => by go_simp⟩) hHeld ?_
      simp only [Act.put, List.setIfInBounds_toArray, List.set_cons_zero, List.set_cons_succ]
      refine wpAnyH_take (i := 3) (oi := ({ dst := some 21, op := Op.load 25 (Operand.tmp 20), type := 25, pos := "merkle.go:15", after := #[{ on := 2, ground := Ground.data }], guard := none } : Oper)) (v := .agg P.toArray) rfl (by kernel_rfl) (by kernel_rfl) (by kernel_rfl) (fun _ _ _ h => h) (yieldsIf_load_mid (by rfl) _ _ rfl b (o + i0 * 32) rfl P _ (fun _ h => h.1) hu rfl hi1) hHeld ?_
      simp only [Act.put, List.setIfInBounds_toArray, List.set_cons_zero, List.set_cons_succ]
      refine wpAnyH_take (i := 4) (oi := ({ dst := some 22, op := Op.move (Operand.tmp 0), type := 22, pos := "merkle.go:15", after := #[], guard := none } : Oper)) (v := .slice (some ⟨b, o, none⟩) n c) rfl (by kernel_rfl) (by kernel_rfl) (by kernel_rfl) (fun _ _ _ h => h) (Or.inl ⟨by rfl, fun w hSw => by go_simp⟩) hHeld ?_
      simp only [Act.put, List.setIfInBounds_toArray, List.set_cons_zero, List.set_cons_succ]
      refine wpAnyH_take (i := 5) (oi := ({ dst := some 23, op := Op.move (Operand.tmp 4), type := 3, pos := "merkle.go:15", after := #[], guard := none } : Oper)) (v := .int .i64 (i0 : Int)) rfl (by kernel_rfl) (by kernel_rfl) (by kernel_rfl) (fun _ _ _ h => h) (Or.inl ⟨by rfl, fun w hSw => by go_simp⟩) hHeld ?_
      simp only [Act.put, List.setIfInBounds_toArray, List.set_cons_zero, List.set_cons_succ]
      refine wpAnyH_take (i := 6) (oi := ({ dst := some 24, op := Op.binOp BinOp.add 3 (Operand.tmp 23) (Operand.const (Value.int IntKind.i64 1)) 3, type := 3, pos := "merkle.go:15", after := #[{ on := 5, ground := Ground.data }], guard := none } : Oper)) (v := .int .i64 ((i0 : Int) + 1)) rfl (by kernel_rfl) (by kernel_rfl) (by kernel_rfl) (fun _ _ _ h => h) (Or.inl ⟨by rfl, fun w hSw => by go_simp⟩) hHeld ?_
      simp only [Act.put, List.setIfInBounds_toArray, List.set_cons_zero, List.set_cons_succ]
      refine wpAnyH_take (i := 7) (oi := ({ dst := some 25, op := Op.move (Operand.tmp 0), type := 22, pos := "merkle.go:15", after := #[], guard := none } : Oper)) (v := .slice (some ⟨b, o, none⟩) n c) rfl (by kernel_rfl) (by kernel_rfl) (by kernel_rfl) (fun _ _ _ h => h) (Or.inl ⟨by rfl, fun w hSw => by go_simp⟩) hHeld ?_
      simp only [Act.put, List.setIfInBounds_toArray, List.set_cons_zero, List.set_cons_succ]
      refine wpAnyH_take (i := 8) (oi := ({ dst := some 26, op := Op.call { callee := Callee.builtin Builtin.len, args := #[Operand.tmp 25], argTypes := #[22] }, type := 3, pos := "merkle.go:15", after := #[{ on := 7, ground := Ground.data }], guard := none } : Oper)) (v := .int .i64 (n : Int)) rfl (by kernel_rfl) (by kernel_rfl) (by kernel_rfl) (fun _ _ _ h => h) (Or.inl ⟨by rfl, fun w hSw => by go_simp⟩) hHeld ?_
      simp only [Act.put, List.setIfInBounds_toArray, List.set_cons_zero, List.set_cons_succ]
      refine wpAnyH_take (i := 9) (oi := ({ dst := some 27, op := Op.binOp BinOp.sub 3 (Operand.tmp 26) (Operand.const (Value.int IntKind.i64 1)) 3, type := 3, pos := "merkle.go:15", after := #[{ on := 8, ground := Ground.data }], guard := none } : Oper)) (v := .int .i64 ((n : Int) - 1)) rfl (by kernel_rfl) (by kernel_rfl) (by kernel_rfl) (fun _ _ _ h => h) (Or.inl ⟨by rfl, fun w hSw => by go_simp⟩) hHeld ?_
      simp only [Act.put, List.setIfInBounds_toArray, List.set_cons_zero, List.set_cons_succ]
      refine wpAnyH_take (i := 10) (oi := ({ dst := some 28, op := Op.call { callee := Callee.builtin Builtin.min, args := #[Operand.tmp 24, Operand.tmp 27], argTypes := #[3, 3] }, type := 3, pos := "merkle.go:15", after := #[{ on := 6, ground := Ground.data }, { on := 9, ground := Ground.data }], guard := none } : Oper)) (v := .int .i64 (j : Int)) rfl (by kernel_rfl) (by kernel_rfl) (by kernel_rfl) (fun _ _ _ h => h) (Or.inl ⟨by rfl, fun w hSw => by go_simp⟩) hHeld ?_
      simp only [Act.put, List.setIfInBounds_toArray, List.set_cons_zero, List.set_cons_succ]
      refine wpAnyH_take (i := 11) (oi := ({ dst := some 29, op := Op.indexAddr 22 (Operand.tmp 22) (Operand.tmp 28), type := 0, pos := "merkle.go:15", after := #[{ on := 4, ground := Ground.data }, { on := 10, ground := Ground.data }], guard := none } : Oper)) (v := .pointer (some ⟨b, o + j * 32, none⟩)) rfl (by kernel_rfl) (by kernel_rfl) (by kernel_rfl) (fun _ _ _ h => h) (Or.inl ⟨by rfl, fun w hSw => by go_simp⟩) hHeld ?_
      simp only [Act.put, List.setIfInBounds_toArray, List.set_cons_zero, List.set_cons_succ]
      refine wpAnyH_take (i := 12) (oi := ({ dst := some 30, op := Op.load 25 (Operand.tmp 29), type := 25, pos := "merkle.go:15", after := #[{ on := 11, ground := Ground.data }], guard := none } : Oper)) (v := .agg Q.toArray) rfl (by kernel_rfl) (by kernel_rfl) (by kernel_rfl) (fun _ _ _ h => h) (yieldsIf_load_mid (by rfl) _ _ rfl b (o + j * 32) rfl Q _ (fun _ h => h.2) hu rfl hi2) hHeld ?_
      simp only [Act.put, List.setIfInBounds_toArray, List.set_cons_zero, List.set_cons_succ]
      refine wpAnyH_act ?_
      intro a0 ha0
      refine wpAnyH_inv (fun listed a W => listed.size = 17 ∧ (∀ i, i < 13 → listed.getD i false = true) ∧ ∃ v5 v6, a = (a0.put (some 5) v5).put (some 6) v6 ∧ TV 25 32 wr.heap.size P.toArray Q.toArray wr (listed.getD 13 false) (listed.getD 14 false) (listed.getD 15 false) (listed.getD 16 false) v5 v6 W) ?hS ?hend ?hstep _ _ _ _ (by decide) ?h0
      case hS =>
        rintro listed a W ⟨_, _, v5, v6, _, hT⟩
        exact HS.out _ (HB.out.trans (Below.mono hT.below HB.out.size))
      case h0 =>
        refine ⟨rfl, by decide, u5, u6, by rw [ha0]; rfl, ⟨below_drew (Below.refl _ _), Nat.le_refl _, ?_, ?_, ?_, ?_, ?_⟩⟩ <;> intro h <;> cases h
      case hend =>
        rintro listed a W ⟨hsz, hlo, v5, v6, rfl, hT⟩ hr
        have l13 := ready_of (j := 13) (o := ({ dst := some 5, op := Op.alloc 25, type := 0, pos := "merkle.go:15", after := #[], guard := none } : Oper)) hr rfl (by rw [hsz]; decide) [] (by simp) (by kernel_rfl)
        have l14 := ready_of (j := 14) (o := ({ dst := some 6, op := Op.alloc 25, type := 0, pos := "merkle.go:15", after := #[], guard := none } : Oper)) hr rfl (by rw [hsz]; decide) [] (by simp) (by kernel_rfl)
        have hall : ∀ k, (List.range 15).contains k = true → listed.getD k false = true := by
          intro k hk
          have : k < 15 := by simpa using hk
          by_cases h : k < 13
          · exact hlo k h
          · obtain rfl | rfl : k = 13 ∨ k = 14 := by omega
            · exact l13
            · exact l14
        have l15 := ready_of (j := 15) (o := ({ dst := none, op := Op.store 25 (Operand.tmp 5) (Operand.tmp 21), type := 0, pos := "merkle.go:15", after := #[{ on := 13, ground := Ground.data }, { on := 3, ground := Ground.data }, { on := 0, ground := Ground.phase }, { on := 1, ground := Ground.phase }, { on := 2, ground := Ground.phase }, { on := 3, ground := Ground.phase }, { on := 4, ground := Ground.textOnly Departure.lateStores }, { on := 5, ground := Ground.textOnly Departure.lateStores }, { on := 6, ground := Ground.textOnly Departure.lateStores }, { on := 7, ground := Ground.textOnly Departure.lateStores }, { on := 8, ground := Ground.textOnly Departure.lateStoresUnsure }, { on := 9, ground := Ground.textOnly Departure.lateStores }, { on := 10, ground := Ground.textOnly Departure.lateStoresUnsure }, { on := 11, ground := Ground.textOnly Departure.lateStoresUnsure }, { on := 12, ground := Ground.phase }, { on := 13, ground := Ground.phase }, { on := 14, ground := Ground.phase }], guard := none } : Oper)) hr rfl (by rw [hsz]; decide) (List.range 15) hall (by kernel_rfl)
        have hall2 : ∀ k, (List.range 16).contains k = true → listed.getD k false = true := by
          intro k hk
          have : k < 16 := by simpa using hk
          by_cases h : k < 15
          · exact hall k (by simpa using h)
          · obtain rfl : k = 15 := by omega
            exact l15
        have l16 := ready_of (j := 16) (o := ({ dst := none, op := Op.store 25 (Operand.tmp 6) (Operand.tmp 30), type := 0, pos := "merkle.go:15", after := #[{ on := 14, ground := Ground.data }, { on := 12, ground := Ground.data }, { on := 15, ground := Ground.chain }, { on := 0, ground := Ground.phase }, { on := 1, ground := Ground.phase }, { on := 2, ground := Ground.phase }, { on := 3, ground := Ground.phase }, { on := 4, ground := Ground.phase }, { on := 5, ground := Ground.phase }, { on := 6, ground := Ground.phase }, { on := 7, ground := Ground.phase }, { on := 8, ground := Ground.phase }, { on := 9, ground := Ground.phase }, { on := 10, ground := Ground.phase }, { on := 11, ground := Ground.phase }, { on := 12, ground := Ground.phase }, { on := 13, ground := Ground.phase }, { on := 14, ground := Ground.phase }, { on := 15, ground := Ground.phase }], guard := none } : Oper)) hr rfl (by rw [hsz]; decide) (List.range 16) hall2 (by kernel_rfl)
        rw [l13, l14, l15, l16] at hT
        obtain ⟨ga, Ca, rfl, hga, hCa, _, ea⟩ := hT.one rfl
        obtain ⟨gb, Cb, rfl, hgb, hCb, _, eb⟩ := hT.two rfl
        obtain rfl := ea rfl
        obtain rfl := eb rfl
        have hba := hT.below
        subst ha0
        simp only [Act.put, List.setIfInBounds_toArray, List.set_cons_zero, List.set_cons_succ]
        obtain ⟨CA, hCA⟩ : ∃ C, nums .u8 (twiceP ([p, q].flatten)) = C := ⟨_, rfl⟩
        have HBA := Lib.hid hba
        have HBW := Lib.hid (HB.out.trans (Below.mono hba HB.out.size))
        have HCP := Lib.hid hCa
        have HCQ := Lib.hid hCb
        have hs := fun W g => slice_allH W g
        clear hT hlo hall hall2 l13 l14 l15 l16 hsz hr ea eb hba hCa hCb
        have HC2 := Lib.hid (show Kd.C kBs (W.alloc (.cells #[.slice (some ⟨ga, 0, none⟩) 32 32, .slice (some ⟨gb, 0, none⟩) 32 32] 33)).drew (some ⟨W.heap.size, 0, none⟩) 2 [p, q] from by
          have e1 := C_of_block (pre := []) (post := []) (k := .u8) (ys := p) (o := 0) (t := 25) (fr := (0, 0)) (w := W) (b := ga) (by rw [List.nil_append, List.append_nil, HP.out.1]; exact HCP.out) rfl (by rw [HPL.out.1]; decide)
          have e2 := C_of_block (pre := []) (post := []) (k := .u8) (ys := q) (o := 0) (t := 25) (fr := (0, 0)) (w := W) (b := gb) (by rw [List.nil_append, List.append_nil, HQ.out.1]; exact HCQ.out) rfl (by rw [HPL.out.2]; decide)
          have e3 := C_row2 (W := (W.alloc (.cells #[.slice (some ⟨ga, 0, none⟩) p.length 32, .slice (some ⟨gb, 0, none⟩) q.length 32] 33)).drew) (heap_alloc_new W _) (by rw [HPL.out.1]; exact Nat.le_refl _) (Kd.C_drew (Kd.C_alloc e1 _)) (by rw [HPL.out.2]; exact Nat.le_refl _) (Kd.C_drew (Kd.C_alloc e2 _))
          rw [HPL.out.1, HPL.out.2] at e3
          exact e3)
        have HBW2 := Lib.hid (below_drew (HBW.out.alloc HBW.out.size (.cells #[.slice (some ⟨ga, 0, none⟩) 32 32, .slice (some ⟨gb, 0, none⟩) 32 32] 33)))
        obtain ⟨W2, hW2⟩ : ∃ W2, (W.alloc (.cells #[.slice (some ⟨ga, 0, none⟩) 32 32, .slice (some ⟨gb, 0, none⟩) 32 32] 33)).drew = W2 := ⟨_, rfl⟩
        have HBA2 := Lib.hid (below_drew (below_alloc HBA.out (.cells #[.slice (some ⟨ga, 0, none⟩) 32 32, .slice (some ⟨gb, 0, none⟩) 32 32] 33)))
        rw [hW2] at HC2 HBW2 HBA2
        have HTW := Lib.hid (twice_calls (some ⟨W.heap.size, 0, none⟩) 2 2 [p, q] W2 rfl HC2.out HY.out HYL.out (by decide) (HK.out.below HBW2.out (Nat.le_refl _)))
        rw [hCA] at HTW
        have hbt := fun u : World => run_build2 ga gb u
        have hbs := fun u => run_hash1 (twiceP [p, q].flatten) (twiceP_len _) u
        rw [hCA] at hbs
        have HCM := Lib.hid (show ∀ u : World, kH.M u w.heap.size (fun _ => False) (twiceP [p, q].flatten) CA from fun u => by rw [← hCA]; exact kH_M (twiceP_len _))
        have HTL := Lib.hid (show (((aboveP xs).take k).length + 1) * 32 ≤ 140737488355328 by rw [List.length_take]; omega)
        have HAT := Lib.hid (show (aboveP xs).take k ++ [twiceP [p, q].flatten] = (aboveP xs).take (k + 1) by
          rw [above_take (by have := HN.out; omega), aboveAt, ← HN.out, HPQ.out.2.2, HPQ.out.1, HPQ.out.2.1]
          simp)
        have HKM := Lib.hid (show k + 1 ≤ m by have := HM.out; omega)
        have HK2 := Lib.hid (show (Value.int .i64 ((i0 : Int) + 2)) = .int .i64 ((2 * (k + 1) : Nat) : Int) by congr 1; omega)
        clear hCA
        go_wp2_with fail
        go_region_held3 (fun u => True) (trivial) (first
          | (go_at_call 50; (with_reducible refine HTW.out.mono ?_); rintro e w3 ⟨rfl, hb3⟩; have HB3 := Lib.hid (HBW2.out.trans (Below.mono hb3 HBW2.out.size)); have HR3 := Lib.hid (Kd.R_below HRR.out (HBA2.out.trans (Below.mono hb3 HBA2.out.size))); clear hb3)
          | (refine Kd.R_append_step kH (w0 := w) w.heap.size (by rfl) (.tmp 31) (.tmp 36) 22 25 (.agg (nums .u8 (List.replicate 32 0)).toArray) 32 (by rfl) Tryd.underlying22 infoH3 rfl (by decide) (by decide) u3 ((aboveP xs).take k) (twiceP [p, q].flatten) CA (fun _ => True) (fun _ => False) (by rfl) (by rfl) (HCM.out _) (fun _ h => h.elim) (fun _ _ => trivial) HR3.out HB3.out HB3.out.size HTL.out ?_; intro v4 w4 ho hb hg hat; have HR4 := Lib.hid ho; have HB4 := Lib.hid hb; clear ho hb hg hat))
        go_wp2
        go_roundw
        case rel => exact ⟨k + 1, HKM.out, HK2.out, Lib.hid ⟨HAT.out ▸ HR4.out, HB4.out⟩⟩
        case measure => simp only [intOf]; omega
      case hstep =>
        rintro listed a W i ⟨hsz, hlo, v5, v6, rfl, hT⟩ hi
        have hlt : i < 17 := (ready_lt hi).1
        have hun := unlisted_of hi
        have h13 : ¬ i < 13 := fun h => by rw [hlo i h] at hun; cases hun
        have hlo2 : ∀ k, k < 13 → (listed.setIfInBounds i true).getD k false = true := fun k hk => by
          rw [listed_set (by omega)]
          split
          · rfl
          · exact hlo k hk
        obtain rfl | rfl | rfl | rfl : i = 13 ∨ i = 14 ∨ i = 15 ∨ i = 16 := by omega
        · refine wpOp_of (o := ({ dst := some 5, op := Op.alloc 25, type := 0, pos := "merkle.go:15", after := #[], guard := none } : Oper)) rfl rfl (wp_alloc 25 rfl Z HZ ?_)
          refine ⟨by simp [hsz], hlo2, _, v6, act_put3 _ _ _ _ _ _ (by decide), ?_⟩
          simp only [listed_set (show 13 < listed.size by omega)]
          rw [hun] at hT
          exact hT.make1 hZ32
        · refine wpOp_of (o := ({ dst := some 6, op := Op.alloc 25, type := 0, pos := "merkle.go:15", after := #[], guard := none } : Oper)) rfl rfl (wp_alloc 25 rfl Z HZ ?_)
          refine ⟨by simp [hsz], hlo2, v5, _, act_put2 _ _ _ _ _ _, ?_⟩
          simp only [listed_set (show 14 < listed.size by omega)]
          rw [hun] at hT
          exact (hT.swap.make1 hZ32).swap
        · have hm := waits_of (o := ({ dst := none, op := Op.store 25 (Operand.tmp 5) (Operand.tmp 21), type := 0, pos := "merkle.go:15", after := #[{ on := 13, ground := Ground.data }, { on := 3, ground := Ground.data }, { on := 0, ground := Ground.phase }, { on := 1, ground := Ground.phase }, { on := 2, ground := Ground.phase }, { on := 3, ground := Ground.phase }, { on := 4, ground := Ground.textOnly Departure.lateStores }, { on := 5, ground := Ground.textOnly Departure.lateStores }, { on := 6, ground := Ground.textOnly Departure.lateStores }, { on := 7, ground := Ground.textOnly Departure.lateStores }, { on := 8, ground := Ground.textOnly Departure.lateStoresUnsure }, { on := 9, ground := Ground.textOnly Departure.lateStores }, { on := 10, ground := Ground.textOnly Departure.lateStoresUnsure }, { on := 11, ground := Ground.textOnly Departure.lateStoresUnsure }, { on := 12, ground := Ground.phase }, { on := 13, ground := Ground.phase }, { on := 14, ground := Ground.phase }], guard := none } : Oper)) hi rfl 13 (by kernel_rfl)
          rw [hm] at hT
          obtain ⟨g, C, rfl, hC, hCs, hT2⟩ := hT.set1_ hP32
          refine wpOp_of (o := ({ dst := none, op := Op.store 25 (Operand.tmp 5) (Operand.tmp 21), type := 0, pos := "merkle.go:15", after := #[{ on := 13, ground := Ground.data }, { on := 3, ground := Ground.data }, { on := 0, ground := Ground.phase }, { on := 1, ground := Ground.phase }, { on := 2, ground := Ground.phase }, { on := 3, ground := Ground.phase }, { on := 4, ground := Ground.textOnly Departure.lateStores }, { on := 5, ground := Ground.textOnly Departure.lateStores }, { on := 6, ground := Ground.textOnly Departure.lateStores }, { on := 7, ground := Ground.textOnly Departure.lateStores }, { on := 8, ground := Ground.textOnly Departure.lateStoresUnsure }, { on := 9, ground := Ground.textOnly Departure.lateStores }, { on := 10, ground := Ground.textOnly Departure.lateStoresUnsure }, { on := 11, ground := Ground.textOnly Departure.lateStoresUnsure }, { on := 12, ground := Ground.phase }, { on := 13, ground := Ground.phase }, { on := 14, ground := Ground.phase }], guard := none } : Oper)) rfl rfl (wp_store_row 25 (.tmp 5) (.tmp 21) rfl g P.toArray (by rw [ha0]; rfl) (by rw [ha0]; rfl) 25 C hC hi1' hCs (all_oneCell_toArray ho1) ?_)
          refine ⟨by simp [hsz], hlo2, _, v6, rfl, ?_⟩
          simp only [listed_set (show 15 < listed.size by omega), hm]
          exact hT2
        · have hm := waits_of (o := ({ dst := none, op := Op.store 25 (Operand.tmp 6) (Operand.tmp 30), type := 0, pos := "merkle.go:15", after := #[{ on := 14, ground := Ground.data }, { on := 12, ground := Ground.data }, { on := 15, ground := Ground.chain }, { on := 0, ground := Ground.phase }, { on := 1, ground := Ground.phase }, { on := 2, ground := Ground.phase }, { on := 3, ground := Ground.phase }, { on := 4, ground := Ground.phase }, { on := 5, ground := Ground.phase }, { on := 6, ground := Ground.phase }, { on := 7, ground := Ground.phase }, { on := 8, ground := Ground.phase }, { on := 9, ground := Ground.phase }, { on := 10, ground := Ground.phase }, { on := 11, ground := Ground.phase }, { on := 12, ground := Ground.phase }, { on := 13, ground := Ground.phase }, { on := 14, ground := Ground.phase }, { on := 15, ground := Ground.phase }], guard := none } : Oper)) hi rfl 14 (by kernel_rfl)
          rw [hm] at hT
          obtain ⟨g, C, rfl, hC, hCs, hT2⟩ := hT.swap.set1_ hQ32
          refine wpOp_of (o := ({ dst := none, op := Op.store 25 (Operand.tmp 6) (Operand.tmp 30), type := 0, pos := "merkle.go:15", after := #[{ on := 14, ground := Ground.data }, { on := 12, ground := Ground.data }, { on := 15, ground := Ground.chain }, { on := 0, ground := Ground.phase }, { on := 1, ground := Ground.phase }, { on := 2, ground := Ground.phase }, { on := 3, ground := Ground.phase }, { on := 4, ground := Ground.phase }, { on := 5, ground := Ground.phase }, { on := 6, ground := Ground.phase }, { on := 7, ground := Ground.phase }, { on := 8, ground := Ground.phase }, { on := 9, ground := Ground.phase }, { on := 10, ground := Ground.phase }, { on := 11, ground := Ground.phase }, { on := 12, ground := Ground.phase }, { on := 13, ground := Ground.phase }, { on := 14, ground := Ground.phase }, { on := 15, ground := Ground.phase }], guard := none } : Oper)) rfl rfl (wp_store_row 25 (.tmp 6) (.tmp 30) rfl g Q.toArray (by rw [ha0]; rfl) (by rw [ha0]; rfl) 25 C hC hi2' hCs (all_oneCell_toArray ho2) ?_)
          refine ⟨by simp [hsz], hlo2, v5, _, rfl, ?_⟩
          simp only [listed_set (show 16 < listed.size by omega), hm]
          exact hT2.swap
    · obtain rfl : k = m := by have := HM.out; omega
      have hx : (aboveP xs).take k = aboveP xs := List.take_of_length_le (by rw [aboveP_len, ← HN.out, HM.out]; exact Nat.le_refl _)
      rw [hx] at hR
      have HRR := Lib.hid hR
      have HB := Lib.hid hB
      clear hR hB H hx
      go_wp2_with fail
      go_ret
      exact ⟨_, rfl, HRR.out, HB.out⟩
end Go.Proofs.YtlmcdkjobdcflaaDoor.Hand

/- The levels of a list: the iterator, walked. -/
namespace Go.Proofs.YtlmcdkjobdcflaaDoor.Hand
open Go Go.RowKit Go.Shelf Go.Proofs.YtlmcdkjobdcflaaDoor.Plain Go.Proofs.YtlmcdkjobdcflaaDoorW.PrintWords Go.Proofs.YtlmcdkjobdcflaaDoorW.PrintLast Go.Proofs.YtlmcdkjobdcflaaDoorW.PrintMore
set_option linter.unusedVariables false
set_option linter.unusedSimpArgs false
set_option maxRecDepth 100000
attribute [local go_sem] Oper.semAt_some
theorem levels_calls (A : Option Addr) (n c : Nat) (w : World) :
    Calls Tryd.prog 52 #[.slice A n c] w fun e w' => e = .returned (.func (.func 62) #[] #[.pointer (some ⟨w.heap.size, 0, none⟩)]) ∧ w' = w.alloc (.cells #[.slice A n c] 22) := by
  go_enter Tryd.func52, Tryd.ntmps52
  go_wp2
  go_ret
  exact ⟨rfl, rfl⟩
/-- The list at hand: the one that came in, or one made since. -/
def LRow (u0 : World) (base : Nat) (u : World) (A : Option Addr) (n c : Nat) (xs : List (List Int)) : Prop :=
  n = xs.length ∧ n ≤ c ∧ (Kd.C kH u0 A n xs ∨ Kd.R kH 25 u base (fun _ => True) (.slice A n c) xs)
theorem LRow.reads {u0 u : World} {base : Nat} {A : Option Addr} {n c : Nat} {xs : List (List Int)} (h : LRow u0 base u A n c xs) (hb : Below u0.heap.size u0 u) : Kd.C kH u A n xs := by
  obtain ⟨h1, h2, h3 | h3⟩ := h
  · exact Kd.C_below h3 hb
  · obtain ⟨e, _, hC⟩ := Kd.R_reads' h3
    rw [← h1] at hC
    exact hC
theorem LRow.keep {u0 u u1 : World} {base : Nat} {A : Option Addr} {n c : Nat} {xs : List (List Int)} (h : LRow u0 base u A n c xs) (hk : ∀ k, k < u.heap.size → base ≤ k → u1.heap[k]? = u.heap[k]?) : LRow u0 base u1 A n c xs := by
  obtain ⟨h1, h2, h3 | h3⟩ := h
  · exact ⟨h1, h2, .inl h3⟩
  · exact ⟨h1, h2, .inr (Kd.R_mono (Kd.R_step (Kd.R_bound h3) (fun k hk1 hk2 => hk k hk2 hk1.2.1)) (fun _ _ => trivial))⟩
def lenAt (L : Nat) (w : World) : Nat := match w.cell? ⟨L, 0, none⟩ with | some (.slice _ n _) => n | _ => 0
theorem lenAt_of {L : Nat} {w : World} {A : Option Addr} {n c : Nat} (h : w.cell? ⟨L, 0, none⟩ = some (.slice A n c)) : lenAt L w = n := by unfold lenAt; rw [h]
/-- What a round is handed. -/
def LX (u0 : World) (base : Nat) (ys : List (List Int)) (d : Nat) (i : Nat) (xs : Array Value) (W : World) : Prop := ∃ A n c, xs = #[.slice A n c] ∧ i ≤ d ∧ LRow u0 base W A n c (lev ys i) ∧ Below u0.heap.size u0 W
theorem LX.putObj {u0 : World} {base : Nat} {ys : List (List Int)} {d i : Nat} {xs : Array Value} {W : World} {l : Nat} {r : Loop} (h : LX u0 base ys d i xs W) (hl : W.heap[l]? = some (.loop r)) (h0 : u0.heap.size ≤ l) (o : Obj) : LX u0 base ys d i xs (W.putObj l o) := by
  obtain ⟨A, n, c, e, hi, ⟨h1, h2, h3⟩, hb⟩ := h
  refine ⟨A, n, c, e, hi, ⟨h1, h2, h3.imp id (fun h4 => ?_)⟩, hb.trans ⟨rfl, rfl, rfl, by simp, fun k hk => World.putObj_heap_other (by omega)⟩⟩
  refine Kd.R_mono (Kd.R_step (Kd.R_bound h4) (fun k hk _ => World.putObj_heap_other ?_)) (fun _ _ => trivial)
  rintro rfl
  obtain ⟨_, _, _, q, _, cells, hc⟩ := hk
  rw [hl] at hc
  cases hc
set_option maxHeartbeats 2000000 in
theorem levels_seq (m : Nat) (u0 w : World) (L d : Nat) (A : Option Addr) (n c : Nat) (ys : List (List Int)) (hn : n = ys.length) (hc : n ≤ c) (hl : n ≤ 100000) (hH : Hs ys) (hK : KT u0) (hr : Kd.C kH u0 A n ys)
    (hb : Below u0.heap.size u0 w) (hL0 : u0.heap.size ≤ L) (hLw : w.heap[L]? = some (.cells #[.slice A n c] 22 (0, 0))) (hd : IsDepth ys.length d) :
    SeqL Fence.wide m Tryd.prog 62 #[.pointer (some ⟨L, 0, none⟩)] u0.heap.size L (LX u0 w.heap.size ys d) (fun i => i = d + 1) w := by
  intro l J Jx W hW hJ hJx hY h0
  obtain ⟨hd1, hd2⟩ := depth_wide hd
  have hlev := lev_len ys
  have hwle := wideP_le ys.length
  have HHS := Lib.hid (fun i => lev_Hs hH i)
  have HWS := Lib.hid hW.size
  have HC0 := Lib.hid hr
  have HK := Lib.hid hK
  have HJ := Lib.hid hJ
  have HJX := Lib.hid hJx
  have HY := Lib.hid hY
  have HLW := Lib.hid ((hW.block L (blk_lt hLw)).trans hLw)
  have HB := Lib.hid (hb.trans (Below.mono hW hb.size))
  have HLT := Lib.hid (blk_lt HLW.out)
  have HD := Lib.hid (And.intro hd1 (And.intro hd2 (And.intro hlev hwle)))
  have HN := Lib.hid (And.intro hn (And.intro hc hl))
  clear hd1 hd2 hlev hwle hH hr hK hJ hJx hY hLw hb hW hd hn hc hl
  refine callsIn_of_wp Tryd.func62 rfl trivial ?_ rfl
  simp only [Tryd.ntmps62, List.size_toArray, List.length_cons, List.length_nil, Nat.reduceAdd, Nat.reduceSub, Array.replicate_succ, Array.replicate_zero, List.push_toArray, List.append_toArray, List.nil_append, List.cons_append]
  gi_wp2
  gi_loopw [3] (fun s wr => ∃ (i : Nat) (A1 : Option Addr) (n1 c1 : Nat), Hid (i ≤ d ∧ n1 ≤ 100000 ∧ wr.heap[L]? = some (.cells #[.slice A1 n1 c1] 22 (0, 0)) ∧ LRow u0 W.heap.size wr A1 n1 c1 (lev ys i) ∧ Below u0.heap.size u0 wr ∧ W.heap.size ≤ wr.heap.size ∧ J i wr)) (fun s wr => lenAt L wr)
  case atStart => exact ⟨0, A, n, c, Lib.hid ⟨Nat.zero_le _, HN.out.2.2, HLW.out, ⟨HN.out.1, HN.out.2.1, .inl HC0.out⟩, HB.out, Nat.le_refl _, h0⟩⟩
  case round =>
    obtain ⟨i, A1, n1, c1, H⟩ := hrel
    obtain ⟨hid, hn1, hcL, hrow, hbu, hsz, hJi⟩ := H.out
    have hX : LX u0 w.heap.size ys d i #[.slice A1 n1 c1] wr := ⟨A1, n1, c1, rfl, hid, ⟨hrow.1, hrow.2.1, hrow.2.2.imp id (fun h4 => Kd.R_lower h4 HWS.out)⟩, hbu⟩
    obtain ⟨fn, tmps, assign, body, hy, hR⟩ := HY.out i _ wr hJi hX hsz
    have hm := lenAt_of (blk_cell hcL 0)
    have hcell := blk_cell hcL 0
    have HI := Lib.hid (And.intro hid (And.intro hn1 (And.intro hcL (And.intro hrow (And.intro hbu hsz)))))
    clear hid hn1 hcL hrow hbu hsz hJi hX H
    have hcell2 : wr.cell? ⟨L, 0, none⟩ = some (.slice A1 n1 c1) := hcell
    have HM := Lib.hid hm
    clear hcell hm
    gi_wp2
    refine ⟨(fun e => by cases e), hR.mono ?_⟩
    rintro e W' (⟨rfl, hJ', hk⟩ | ⟨rfl, hJx'⟩)
    · obtain ⟨hid, hn1, hcL, hrow, hbu, hsz⟩ := HI.out
      have hcL2 : W'.heap[L]? = some (.cells #[.slice A1 n1 c1] 22 (0, 0)) := (hk.block L (blk_lt hcL) (.inr (.inr rfl))).trans hcL
      have hrow2 := hrow.keep (u1 := W') (fun k hk1 hk2 => hk.block k hk1 (.inr (.inl hk2)))
      have hbu2 : Below u0.heap.size u0 W' := hbu.trans (hk.below (fun k hk => .inl hk) hbu.size)
      have hsz2 : W.heap.size ≤ W'.heap.size := Nat.le_trans hsz hk.size
      have hn := hrow.1
      rw [HD.out.2.2.1] at hn
      have hc2 := blk_cell hcL2 0
      have hf2 := blk_frozen hcL2 0
      have hc3 : W'.cell? ⟨L, 0, none⟩ = some (.slice A1 n1 c1) := hc2
      by_cases h1 : 1 < n1
      · have hlt : i < d := by
          by_cases e : i = d
          · subst e
            have := HD.out.1
            omega
          · omega
        have HAB := Lib.hid (above_calls A1 n1 c1 (lev ys i) W' hrow.1 (hrow2.reads hbu2) hrow.2.1 hn1 (HHS.out i) (HK.out.below hbu2 (Nat.le_refl _)))
        have hg1 : decide ((1 : Int) < (n1 : Int)) = true := decide_eq_true (by omega)
        have HI2 := Lib.hid (And.intro hbu2 (And.intro hsz2 (And.intro hrow.1 (And.intro hlt (And.intro hn1 (And.intro hn (And.intro hcL2 hJ')))))))
        clear hid hn1 hcL hrow hbu hsz hcL2 hrow2 hbu2 hsz2 hJ' hk hc2 hn hlt h1
        gi_wp2_with fail
        refine ⟨trivial, (fun e => by cases e), (callsIn_wide.2 HAB.out).mono ?_⟩
        rintro e w5 ⟨v, rfl, hR5, hb5⟩
        obtain ⟨A5, c5, rfl, hc5, hC5⟩ := Kd.R_reads hR5
        have HR5 := Lib.hid hR5
        have HB5 := Lib.hid hb5
        have HC5 := Lib.hid hc5
        have hcL5 : w5.cell? ⟨L, 0, none⟩ = some (.slice A1 n1 c1) := (hb5.cell (p := ⟨L, 0, none⟩) (blk_lt HI2.out.2.2.2.2.2.2.1)).trans hc3
        have hfL5 : w5.frozen? ⟨L, 0, none⟩ = false := (hb5.frozen (p := ⟨L, 0, none⟩) (blk_lt HI2.out.2.2.2.2.2.2.1)).trans hf2
        clear hR5 hb5 hc5 hC5 HAB
        gi_wp2
        go_roundw
        case rel =>
          obtain ⟨hbu2, hsz2, hnr, hlt, hn1, hn, hcL2, hJ'⟩ := HI2.out
          have hLlt : L < W'.heap.size := blk_lt hcL2
          have hcL5' := (HB5.out.block L hLlt).trans hcL2
          have hle : (aboveP (lev ys i)).length ≤ 100000 := by rw [aboveP_len, ← hnr]; omega
          refine ⟨i + 1, A5, (aboveP (lev ys i)).length, c5, Lib.hid ⟨hlt, hle, blk_set hcL5' 0 _, ⟨rfl, HC5.out, .inr ?_⟩, ?_, ?_, ?_⟩⟩
          · refine Kd.R_mono (Kd.R_far (p := ⟨L, 0, none⟩) (Kd.R_bound (Kd.R_lower HR5.out hsz2)) (fun k hk => ?_) _) (fun _ _ => trivial)
            have h1 := hk.2.1
            have h2 := HLT.out
            show k ≠ L
            omega
          · exact (hbu2.trans (Below.mono HB5.out hbu2.size)).setCell (p := ⟨L, 0, none⟩) hL0 _
          · rw [World.size_setCell]
            exact Nat.le_trans hsz2 HB5.out.size
          · exact HJ.out (i + 1) W' _ hJ' ((Same.of_below HB5.out).trans (Same.setCell w5 (p := ⟨L, 0, none⟩) _ (fun h => h.2 rfl)))
        case measure =>
          obtain ⟨hbu2, hsz2, hnr, hlt, hn1, hn, hcL2, hJ'⟩ := HI2.out
          have hcL5' := (HB5.out.block L (blk_lt hcL2)).trans hcL2
          have h5 : lenAt L (w5.setCell ⟨L, 0, none⟩ (.slice A5 (aboveP (lev ys i)).length c5)) = (aboveP (lev ys i)).length := lenAt_of (blk_cell (blk_set hcL5' 0 _) 0)
          have h6 : (1 : Int) < (n1 : Int) := of_decide_eq_true hg1
          rw [h5, HM.out, aboveP_len, ← hnr]
          omega
      · have hid2 : i = d := by
          by_cases e : i = d
          · exact e
          · have := HD.out.2.1 i (by omega)
            omega
        subst hid2
        have hg1 : decide ((1 : Int) < (n1 : Int)) = false := decide_eq_false (by omega)
        clear hid hn1 hcL hrow hbu hsz hcL2 hrow2 hbu2 hsz2 hk hc2 hn h1
        gi_wp2
        go_end0
        exact ⟨⟨_, rfl⟩, .inl ⟨i + 1, rfl, hJ'⟩⟩
    · gi_wp2
      go_end0
      exact ⟨⟨_, rfl⟩, .inr ⟨i + 1, hJx'⟩⟩
end Go.Proofs.YtlmcdkjobdcflaaDoor.Hand

/- A list's root: walked. -/
namespace Go.Proofs.YtlmcdkjobdcflaaDoor.Hand
open Go Go.RowKit Go.Shelf Go.Proofs.YtlmcdkjobdcflaaDoor.Plain Go.Proofs.YtlmcdkjobdcflaaDoorW.PrintWords Go.Proofs.YtlmcdkjobdcflaaDoorW.PrintLast Go.Proofs.YtlmcdkjobdcflaaDoorW.PrintMore
set_option linter.unusedVariables false
set_option linter.unusedSimpArgs false
set_option maxRecDepth 100000
attribute [local go_sem] Oper.semAt_some
attribute [-go_sem] loadVar storeVar
end Go.Proofs.YtlmcdkjobdcflaaDoor.Hand

/- Is a list doubled? Walked. -/
namespace Go.Proofs.YtlmcdkjobdcflaaDoor.Hand
open Go Go.RowKit Go.Shelf Go.Proofs.YtlmcdkjobdcflaaDoor.Plain Go.Proofs.YtlmcdkjobdcflaaDoorW.PrintWords Go.Proofs.YtlmcdkjobdcflaaDoorW.PrintLast Go.Proofs.YtlmcdkjobdcflaaDoorW.PrintMore
set_option linter.unusedVariables false
set_option linter.unusedSimpArgs false
set_option maxRecDepth 100000
attribute [local go_sem] Oper.semAt_some
theorem eqH (S T : List Int) (hS : S.length = 32) (hT : T.length = 32) (w : World) : (Op.equalIn 10000 25 (.agg (nums .u8 S).toArray) (.agg (nums .u8 T).toArray)).run Tryd.prog w = .ok (S == T) w :=
  run_equalIn_nums (P := Tryd.prog) w 9998 25 5 32 .u8 Tryd.underlying25 Tryd.underlying5 (fun w => by rfl) S T hS hT
theorem paired_of {xs : List (List Int)} {k : Nat} (h : 2 * k + 1 < xs.length) (e : (rdH xs (2 * k + 1) == rdH xs (2 * k)) = true) : pairedP xs = true := by
  unfold pairedP
  rw [List.any_eq_true]
  exact ⟨k, by simp; omega, e⟩
theorem paired_not {xs : List (List Int)} (h : ∀ k, 2 * k + 1 < xs.length → (rdH xs (2 * k + 1) == rdH xs (2 * k)) = false) : pairedP xs = false := by
  unfold pairedP
  rw [List.any_eq_false]
  intro k hk
  have : k < xs.length / 2 := by simpa using hk
  rw [h k (by omega)]
  simp
end Go.Proofs.YtlmcdkjobdcflaaDoor.Hand

