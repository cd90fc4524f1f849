/- Several texts in one. -/
import Derived.Test.YtlmcdkjobdcflaaDoorProg
import Derived.Below
import Derived.Deep.Draws
import Derived.Deep.AppendLies
import Derived.Maps.AppendAt
import Derived.OwnWalk
import Derived.Laws.BytesArg
import Derived.Laws.MakeOwn
import Derived.Laws.OwnMore
import Derived.Deep.OwnRows
import Derived.Tactics
import Derived.Lib.ConvBytes
import Derived.Laws.Slices
import Derived.WalkKit
import Derived.KernelRfl
import Derived.RowKit3
import Derived.Deep.LoopGhost
import Derived.Deep.QuietTactic
import Derived.BigQuiet
import Derived.WideLaws
import Derived.Deep.DeepCutAuto
import Derived.Deep.CutBlock
import Derived.Deep.RegionHeld3
import Derived.Laws.Rows
import Derived.Lib.AppendStr
import Derived.ArgAppend
import Derived.Laws.IdiomCopy
import Derived.OrdersHeld
import Derived.Laws.BitsLemmas
import Derived.RowKit
import Derived.StillTailTactics
import Derived.Test.YtlmcdkjobdcflaaDoorWWords
import Derived.Test.YtlmcdkjobdcflaaDoorWLast
import Derived.Test.YtlmcdkjobdcflaaDoorWMore
import Derived.Lib.Hide
import Derived.Test.YtlmcdkjobdcflaaDoorBentA
import Derived.Outline
import Derived.Deep.MidRow
import Derived.Deep.WholeRow
import Derived.Deep.DrawnRows
import Derived.Deep.Cut
import Derived.Deep.CutRange
import Derived.Test.YtlmcdkjobdcflaaDoorOpens2
/- Two ways up from a leaf come together: the plain law. -/
namespace Go.Proofs.YtlmcdkjobdcflaaDoor.Hand
open Go Go.RowKit Go.Proofs.YtlmcdkjobdcflaaDoor.Plain
set_option linter.unusedVariables false
set_option linter.unusedSimpArgs false
/-- The two texts that are hashed at a place. -/
def pairF (p : Nat) (x a : List Int) : List (List Int) := if p % 2 = 1 then [a, x] else [x, a]
/-- The way up, nothing looked at. -/
def wayF : List (List Int) → Nat → List Int → List Int
  | [], _, x => x
  | a :: us, p, x => wayF us (p / 2) (twiceP (pairF p x a).flatten)
/-- Do two ways come together by two texts? -/
def meetsF : List (List Int) → List (List Int) → Nat → List Int → List Int → Bool
  | a :: us, b :: vs, p, x, y => (twiceP (pairF p x a).flatten == twiceP (pairF p y b).flatten && !(pairF p x a == pairF p y b)) || meetsF us vs (p / 2) (twiceP (pairF p x a).flatten) (twiceP (pairF p y b).flatten)
  | _, _, _, _, _ => false
theorem pairF_inj {p : Nat} {x y a b : List Int} (h : pairF p x a = pairF p y b) : x = y ∧ a = b := by
  unfold pairF at h
  split at h <;> simp_all
theorem meetsF_of : ∀ (us vs : List (List Int)) (p : Nat) (x y : List Int), us.length = vs.length → (x ≠ y ∨ us ≠ vs) → wayF us p x = wayF vs p y → meetsF us vs p x y = true
  | [], [], p, x, y, _, h, e => by
    rcases h with h | h
    · exact absurd e h
    · exact absurd rfl h
  | a :: us, b :: vs, p, x, y, hl, h, e => by
    rw [wayF, wayF] at e
    rw [meetsF]
    have hl2 : us.length = vs.length := by simpa using hl
    by_cases hx : twiceP (pairF p x a).flatten = twiceP (pairF p y b).flatten
    · by_cases hp : pairF p x a = pairF p y b
      · obtain ⟨rfl, rfl⟩ := pairF_inj hp
        have hne : us ≠ vs := by
          rcases h with h | h
          · exact absurd rfl h
          · exact fun e => h (by rw [e])
        rw [meetsF_of us vs (p / 2) _ _ hl2 (.inr hne) e, Bool.or_true]
      · have h1 : (twiceP (pairF p x a).flatten == twiceP (pairF p y b).flatten) = true := by rw [hx]; simp
        have h2 : (pairF p x a == pairF p y b) = false := by rw [beq_eq_false_iff_ne]; exact hp
        rw [h1, h2]
        rfl
    · rw [meetsF_of us vs (p / 2) _ _ hl2 (.inl hx) e, Bool.or_true]
  | [], _ :: _, _, _, _, hl, _, _ => by simp at hl
  | _ :: _, [], _, _, _, hl, _, _ => by simp at hl
theorem upF_way : ∀ (xs : List (List Int)) (p n : Nat) (leaf r : List Int), upF xs p n leaf = some r → wayF xs p leaf = r
  | [], p, n, leaf, r, h => by
    rw [upF] at h
    rw [wayF]
    injection h
  | a :: xs, p, n, leaf, r, h => by
    rw [upF] at h
    split at h
    · cases h
    · have ih := upF_way xs _ _ _ r h
      rw [wayF, ← ih]
      unfold pairF
      by_cases ev : p % 2 = 0
      · rw [if_neg (by omega), if_pos ev]
        simp
      · rw [if_pos (by omega), if_neg ev]
        simp
theorem way_path : ∀ (d : Nat) (xs : List (List Int)) (i : Nat), IsDepth xs.length d → i < xs.length → wayF (pathF d xs i) i (rdH xs i) = rdH (lev xs d) 0
  | 0, xs, i, hd, hi => by
    have := hd.1
    obtain rfl : i = 0 := by omega
    rw [pathF, wayF, lev]
  | d + 1, xs, i, hd, hi => by
    have h2 : 2 ≤ xs.length := by
      have := hd.2 0 (by omega)
      rw [Nat.pow_zero] at this
      omega
    have ih := way_path d (aboveP xs) (i / 2) (by rw [aboveP_len]; exact depth_above hd) (by rw [aboveP_len]; omega)
    rw [rdH_above (by omega), lev_above] at ih
    rw [pathF, wayF, ← ih]
    congr 1
    unfold pairF aboveAt
    by_cases ev : i % 2 = 0
    · obtain ⟨k, rfl⟩ : ∃ k, i = 2 * k := ⟨i / 2, by omega⟩
      have hs : sib (2 * k) = 2 * k + 1 := by unfold sib; rw [if_pos ev]
      rw [if_neg (by omega), hs, show 2 * k / 2 = k by omega]
      simp
    · obtain ⟨k, rfl⟩ : ∃ k, i = 2 * k + 1 := ⟨i / 2, by omega⟩
      have hs : min (sib (2 * k + 1)) (xs.length - 1) = 2 * k := by unfold sib; rw [if_neg ev]; omega
      rw [if_pos (by omega), hs, show (2 * k + 1) / 2 = k by omega, show min (2 * k + 1) (xs.length - 1) = 2 * k + 1 by omega]
      simp
/-- P9.1: a path with one other hash in it that leads to the same root: the two ways meet. -/
theorem bent_meets {xs ys : List (List Int)} {i d n : Nat} (hn : n = xs.length) (hd : IsDepth n d) (hi : i < n) (hn2 : n ≤ 65536) (hl : ys.length = d) (hne : ys ≠ pathF d xs i) (hc : checkP (n : Int) (i : Int) ys (rootP xs) (rdH xs i) = 0) : meetsF (pathF d xs i) ys i (rdH xs i) (rdH xs i) = true := by
  subst hn
  refine meetsF_of _ _ _ _ _ (by rw [pathF_len, hl]) (.inr (Ne.symm hne)) ?_
  have hr : rootP xs = rdH (lev xs d) 0 := by rw [rootP_of hd, rootAt_depth hd (by omega)]
  rw [way_path d xs i hd hi, ← hr]
  have hup : upP (xs.length : Int) (i : Int) ys (rdH xs i) = match upF ys i xs.length (rdH xs i) with
    | none => (z32h, 15)
    | some x => (x, 0) := by
    unfold upP
    rw [hl, bright_of hd hi hn2, if_pos rfl, if_neg (by decide), Int.toNat_natCast, Int.toNat_natCast]
    cases upF ys i xs.length (rdH xs i) <;> rfl
  unfold checkP at hc
  rw [hup] at hc
  cases hu : upF ys i xs.length (rdH xs i) with
  | none =>
    rw [hu] at hc
    simp at hc
  | some r =>
    rw [hu] at hc
    have h1 : (r == rootP xs) = true := by
      cases h : (r == rootP xs) with
      | true => rfl
      | false =>
        simp only [h, if_true, Bool.false_eq_true, if_false] at hc
        exact absurd hc (by decide)
    rw [upF_way _ _ _ _ _ hu]
    exact (eq_of_beq h1).symm
end Go.Proofs.YtlmcdkjobdcflaaDoor.Hand


/- Do two ways from a leaf come together: walked. -/
namespace Go.Proofs.YtlmcdkjobdcflaaDoor.Hand
open Go Go.RowKit Go.Proofs.YtlmcdkjobdcflaaDoor.Plain Go.Proofs.YtlmcdkjobdcflaaDoor.PAll Go.Proofs.YtlmcdkjobdcflaaDoorW.PrintWords Go.Proofs.YtlmcdkjobdcflaaDoorW.PrintLast Go.Proofs.YtlmcdkjobdcflaaDoorW.PrintMore
set_option linter.unusedVariables false
set_option linter.unusedSimpArgs false
set_option maxRecDepth 100000
attribute [local go_sem ↓] Go.wp_at_zero Go.wp_at_succ
theorem run_load_rm (w : World) (a : Addr) (v : Value) (h : w.cell? a = some v) : (loadVar 28 a).run Tryd.prog w = .ok v w := by
  go_simp
attribute [-go_sem] loadVar storeVar Instr.buildSlice Instr.build
theorem u87 : Tryd.prog.underlying 87 = some (.array 2 24) := by kernel_rfl
theorem info87 : (Tryd.prog.info? 87).map (fun i => (i.zero, i.size)) = some (some (.agg (nums .u8 (List.replicate 32 0) ++ nums .u8 (List.replicate 32 0)).toArray), 64) := by kernel_rfl
theorem built87 (p q : List Int) (hp : p.length = 32) (hq : q.length = 32) : Tryd.prog.built 87 [(0, .agg (nums .u8 p).toArray), (1, .agg (nums .u8 q).toArray)] = some (nums .u8 p ++ nums .u8 q).toArray := by
  obtain ⟨x0, x1, x2, x3, x4, x5, x6, x7, x8, x9, x10, x11, x12, x13, x14, x15, x16, x17, x18, x19, x20, x21, x22, x23, x24, x25, x26, x27, x28, x29, x30, x31, rfl⟩ := list32 p hp
  obtain ⟨y0, y1, y2, y3, y4, y5, y6, y7, y8, y9, y10, y11, y12, y13, y14, y15, y16, y17, y18, y19, y20, y21, y22, y23, y24, y25, y26, y27, y28, y29, y30, y31, rfl⟩ := list32 q hq
  kernel_rfl
theorem part0 (p q : List Int) (hp : p.length = 32) (hq : q.length = 32) (w : World) : (part 24 (nums .u8 p ++ nums .u8 q).toArray (0 * 32)).run Tryd.prog w = .ok (.agg (nums .u8 p).toArray) w := by
  obtain ⟨x0, x1, x2, x3, x4, x5, x6, x7, x8, x9, x10, x11, x12, x13, x14, x15, x16, x17, x18, x19, x20, x21, x22, x23, x24, x25, x26, x27, x28, x29, x30, x31, rfl⟩ := list32 p hp
  obtain ⟨y0, y1, y2, y3, y4, y5, y6, y7, y8, y9, y10, y11, y12, y13, y14, y15, y16, y17, y18, y19, y20, y21, y22, y23, y24, y25, y26, y27, y28, y29, y30, y31, rfl⟩ := list32 q hq
  kernel_rfl
theorem part1 (p q : List Int) (hp : p.length = 32) (hq : q.length = 32) (w : World) : (part 24 (nums .u8 p ++ nums .u8 q).toArray (1 * 32)).run Tryd.prog w = .ok (.agg (nums .u8 q).toArray) w := by
  obtain ⟨x0, x1, x2, x3, x4, x5, x6, x7, x8, x9, x10, x11, x12, x13, x14, x15, x16, x17, x18, x19, x20, x21, x22, x23, x24, x25, x26, x27, x28, x29, x30, x31, rfl⟩ := list32 p hp
  obtain ⟨y0, y1, y2, y3, y4, y5, y6, y7, y8, y9, y10, y11, y12, y13, y14, y15, y16, y17, y18, y19, y20, y21, y22, y23, y24, y25, y26, y27, y28, y29, y30, y31, rfl⟩ := list32 q hq
  kernel_rfl
theorem eq87 (a b c d : List Int) (ha : a.length = 32) (hb : b.length = 32) (hc : c.length = 32) (hd : d.length = 32) (w : World) : (Op.equalIn 10000 87 (.agg (nums .u8 a ++ nums .u8 b).toArray) (.agg (nums .u8 c ++ nums .u8 d).toArray)).run Tryd.prog w = .ok ([a, b] == [c, d]) w := by
  have hsz : ∀ w, (sizeOf 24).run Tryd.prog w = .ok 32 w := fun w => by rfl
  have e1 : (Op.equalIn 9999 24 (.agg (nums .u8 a).toArray) (.agg (nums .u8 c).toArray)).run Tryd.prog w = .ok (a == c) w := run_equalIn_nums (P := Tryd.prog) w 9997 24 5 32 .u8 Tryd.underlying24 Tryd.underlying5 (fun w => by rfl) a c ha hc
  have e2 : (Op.equalIn 9999 24 (.agg (nums .u8 b).toArray) (.agg (nums .u8 d).toArray)).run Tryd.prog w = .ok (b == d) w := run_equalIn_nums (P := Tryd.prog) w 9997 24 5 32 .u8 Tryd.underlying24 Tryd.underlying5 (fun w => by rfl) b d hb hd
  have hl : List.range' 0 2 1 = [0, 1] := rfl
  rw [Op.equalIn]
  simp only [Sem.run_bind, run_underlying u87, Result.andThen_ok, hsz, Std.Legacy.Range.forIn_eq_forIn_range', Std.Legacy.Range.size, Nat.sub_zero, Nat.add_sub_cancel, Nat.div_one, hl, List.forIn_cons, List.forIn_nil, part0 a b ha hb, part0 c d hc hd, part1 a b ha hb, part1 c d hc hd, e1, e2]
  cases h1 : (a == c) <;> cases h2 : (b == d) <;> simp [h1, h2, List.cons_beq_cons, part1 a b ha hb, part1 c d hc hd, e2]
theorem meetsF_cons {us vs : List (List Int)} {k : Nat} (h : k < us.length) (h2 : k < vs.length) (p : Nat) (x y : List Int) : meetsF (us.drop k) (vs.drop k) p x y = ((twiceP (pairF p x (rdH us k)).flatten == twiceP (pairF p y (rdH vs k)).flatten && !(pairF p x (rdH us k) == pairF p y (rdH vs k))) || meetsF (us.drop (k + 1)) (vs.drop (k + 1)) (p / 2) (twiceP (pairF p x (rdH us k)).flatten) (twiceP (pairF p y (rdH vs k)).flatten)) := by
  rw [List.drop_eq_getElem_cons h, List.drop_eq_getElem_cons h2, meetsF, rdH_eq h, rdH_eq h2]
theorem meetsF_nil {us vs : List (List Int)} {k : Nat} (h : us.length ≤ k) (p : Nat) (x y : List Int) : meetsF (us.drop k) (vs.drop k) p x y = false := by
  rw [List.drop_of_length_le h]
  rfl
theorem range_of {u : World} {g : Nat} {C : List Value} {t : TypeId} (h : u.heap[g]? = some (.cells C.toArray t (0, 0))) : u.rangeAt g 0 C := fun j v hj => by
  rw [Nat.zero_add, blk_cell h, List.getElem?_toArray]
  exact hj
theorem range_fst {u : World} {g : Nat} {C D : List Value} {t : TypeId} (h : u.heap[g]? = some (.cells (C ++ D).toArray t (0, 0))) : u.rangeAt g 0 C := fun j v hj => by
  have hl := (List.getElem?_eq_some_iff.1 hj).1
  rw [Nat.zero_add, blk_cell h, List.getElem?_toArray, List.getElem?_append_left hl]
  exact hj
theorem range_snd {u : World} {g : Nat} {C D : List Value} {t : TypeId} (hC : C.length = 32) (h : u.heap[g]? = some (.cells (C ++ D).toArray t (0, 0))) : u.rangeAt g 32 D := fun j v hj => by
  rw [blk_cell h, List.getElem?_toArray, List.getElem?_append_right (by omega), hC, show 32 + j - 32 = j by omega]
  exact hj
theorem half_p {a : Nat} (h : a ≤ 100000) : wrap64 ((a : Int) / 2) = ((a / 2 : Nat) : Int) := by
  rw [IntWalk.wrap64_in _ ⟨by omega, by omega⟩]
  omega
theorem half_p2 {a : Nat} (h : a ≤ 100000) : IntKind.i64.wrap ((a : Int) / 2) = (a : Int) / 2 := IntWalk.i64_in _ (by omega)
theorem count_n {d k : Nat} (h : k < d) : d + 1 - (intOf (.int .i64 ((k + 1 : Nat) : Int))).toNat < d + 1 - (intOf (.int .i64 (k : Int))).toNat := by
  simp only [intOf]
  omega
set_option maxHeartbeats 8000000 in
theorem meets9_calls (cnt cnt2 idx2 : Int) (i : Nat) (A B : Option Addr) (m c c2 : Nat) (us vs : List (List Int)) (leaf : List Int) (w : World) (hm : m = us.length) (hm2 : m = vs.length) (hm20 : m ≤ 1000) (hi : i ≤ 65536) (hA : Kd.C kH w A m us) (hB : Kd.C kH w B m vs) (hus : Hs us) (hvs : Hs vs) (hleaf : leaf.length = 32 ∧ ∀ x ∈ leaf, 0 ≤ x ∧ x < 256) :
    Calls Tryd.prog 39 #[.agg #[.int .i64 cnt, .int .i64 (i : Int), .slice A m c], .agg #[.int .i64 cnt2, .int .i64 idx2, .slice B m c2], .agg (nums .u8 leaf).toArray] w fun e w' => e = .returned (.bool (meetsF us vs i leaf leaf)) ∧ Below w.heap.size w w' := by
  have hLl : (nums .u8 leaf).length = 32 := by rw [nums_len]; exact hleaf.1
  have HF := Lib.hid (show ∀ X : List Int, X.length = 32 → (Tryd.prog.info? 24).map (·.size) = some (nums .u8 X).length ∧ (Tryd.prog.info? 24).map (·.size) = some (nums .u8 X).toArray.size ∧ (nums .u8 X).toArray.size = 32 ∧ (nums .u8 X).toArray.all (·.oneCell') = true from fun X h => ⟨by rw [nums_len, h]; exact (zero_of_info info32b).2, by rw [List.size_toArray, nums_len, h]; exact (zero_of_info info32b).2, by rw [List.size_toArray, nums_len, h], all_oneCell_toArray (nums_one _ _)⟩)
  obtain ⟨hA0, hB0, hL0⟩ := alloc3 w (.cells #[.int .i64 cnt, .int .i64 (i : Int), .slice A m c] 46) (.cells #[.int .i64 cnt2, .int .i64 idx2, .slice B m c2] 46) (.cells (nums .u8 leaf).toArray 25)
  have HBW := Lib.hid (below_alloc (below_alloc (below_alloc (Below.refl w.heap.size w) (.cells #[.int .i64 cnt, .int .i64 (i : Int), .slice A m c] 46)) (.cells #[.int .i64 cnt2, .int .i64 idx2, .slice B m c2] 46)) (.cells (nums .u8 leaf).toArray 25))
  obtain ⟨W0, hW0⟩ : ∃ W0, ((w.alloc (.cells #[.int .i64 cnt, .int .i64 (i : Int), .slice A m c] 46)).alloc (.cells #[.int .i64 cnt2, .int .i64 idx2, .slice B m c2] 46)).alloc (.cells (nums .u8 leaf).toArray 25) = W0 := ⟨_, rfl⟩
  rw [hW0] at hA0 hB0 hL0 HBW
  have HW0 := Lib.hid hW0
  have hu25 := Tryd.underlying25
  have hu24 := Tryd.underlying24
  have HIL := Lib.hid (HF.out leaf hleaf.1)
  have hiL : (Tryd.prog.info? 25).map (·.size) = some (nums .u8 leaf).length := by rw [hLl]; exact (zero_of_info infoHash).2
  have HLF := Lib.hid hleaf
  have HSS := Lib.hid (show ∀ u : World, Below W0.heap.size W0 u → (loadVar 28 ⟨w.heap.size, 2, none⟩).run Tryd.prog u = .ok (.slice A m c) u ∧ (loadVar 28 ⟨w.heap.size + 1, 2, none⟩).run Tryd.prog u = .ok (.slice B m c2) u ∧ (loadVar 3 ⟨w.heap.size, 1, none⟩).run Tryd.prog u = .ok (.int .i64 (i : Int)) u ∧ u.rangeAt (w.heap.size + 1 + 1) 0 (nums .u8 leaf) from fun u h => by
    have h1 := (h.block _ (blk_lt hA0)).trans hA0
    have h2 := (h.block _ (blk_lt hB0)).trans hB0
    have h3 := (h.block _ (blk_lt hL0)).trans hL0
    exact ⟨run_load_rm _ _ _ ((blk_cell h1 2).trans rfl), run_load_rm _ _ _ ((blk_cell h2 2).trans rfl), run_load_i64 _ _ _ ((blk_cell h1 1).trans rfl), range_of h3⟩)
  have HAA := Lib.hid (fun (u : World) (h : Below W0.heap.size W0 u) => (show Kd.C kH u A m us ∧ Kd.C kH u B m vs ∧ Below w.heap.size w u from ⟨Kd.C_below hA (HBW.out.trans (Below.mono h HBW.out.size)), Kd.C_below hB (HBW.out.trans (Below.mono h HBW.out.size)), HBW.out.trans (Below.mono h HBW.out.size)⟩))
  have HUV := Lib.hid (And.intro hm (And.intro hm2 (And.intro hus hvs)))
  have hz24 := (zero_of_info info32b).1
  have hz87 := (zero_of_info info87).1
  obtain ⟨Z, hZ⟩ : ∃ X, (nums .u8 (List.replicate 32 0)).toArray = X := ⟨_, rfl⟩
  have hZs : Z.size = 32 := by rw [← hZ]; rfl
  rw [hZ] at hz24
  obtain ⟨Z2, hZ2⟩ : ∃ X, (nums .u8 (List.replicate 32 0) ++ nums .u8 (List.replicate 32 0)).toArray = X := ⟨_, rfl⟩
  have hZ2s : Z2.size = 64 := by rw [← hZ2]; rfl
  rw [hZ2] at hz87
  have HZS := Lib.hid (And.intro hZs hZ2s)
  obtain ⟨R, hR⟩ : ∃ R, meetsF us vs i leaf leaf = R := ⟨_, rfl⟩
  rw [hR]
  have HR := Lib.hid hR
  clear hA0 hB0 hL0 hW0 hm hm2 hA hB hus hvs hleaf hZ hZ2 hR hZs hZ2s hLl
  go_enter Tryd.func39, Tryd.ntmps39
  go_upto_region 1 with fail
  rw [HW0.out]
  have HBD0 := Lib.hid (below_drew (Below.refl W0.heap.size W0))
  go_cut [7, 8, 9] from 13 to 16 (fun x7 x8 x9 wx => ∃ g h, x7 = .pointer (some ⟨g, 0, none⟩) ∧ x8 = .pointer (some ⟨h, 0, none⟩) ∧ x9 = .int .i64 (i : Int) ∧ Hid (g ≠ h ∧ W0.heap.size ≤ g ∧ W0.heap.size ≤ h ∧ wx.heap[g]? = some (.cells (nums .u8 leaf).toArray 24 (0, 0)) ∧ wx.heap[h]? = some (.cells (nums .u8 leaf).toArray 24 (0, 0)) ∧ Below W0.heap.size W0 wx))
  case first =>
    have hHeld := HSS.out _ HBD0.out
    refine wp_region_held (S := fun u => (loadVar 28 ⟨w.heap.size, 2, none⟩).run Tryd.prog u = .ok (.slice A m c) u ∧ (loadVar 28 ⟨w.heap.size + 1, 2, none⟩).run Tryd.prog u = .ok (.slice B m c2) u ∧ (loadVar 3 ⟨w.heap.size, 1, none⟩).run Tryd.prog u = .ok (.int .i64 (i : Int)) u ∧ u.rangeAt (w.heap.size + 1 + 1) 0 (nums .u8 leaf)) (by kernel_rfl) ?_
    change wpAnyH _ _ _ _ _ _ _ _ (World.drew _)
    refine wpAnyH_take (i := 0) (oi := ({ dst := some 13, op := Op.load 25 (Operand.tmp 5), type := 25, pos := "law.go:103", after := #[], guard := none } : Oper)) (v := .agg (nums .u8 leaf).toArray) rfl (by kernel_rfl) (by kernel_rfl) (by kernel_rfl) (fun _ _ _ h => h) (yieldsIf_load_mid (by rfl) _ _ rfl (w.heap.size + 1 + 1) 0 rfl (nums .u8 leaf) _ (fun _ h => h.2.2.2) hu25 rfl hiL) hHeld ?_
    simp only [Act.put, List.setIfInBounds_toArray, List.set_cons_zero, List.set_cons_succ]
    refine wpAnyH_take (i := 1) (oi := ({ dst := some 14, op := Op.load 25 (Operand.tmp 5), type := 25, pos := "law.go:103", after := #[{ on := 6, ground := Ground.gcOnly Departure.lateStores }], guard := none } : Oper)) (v := .agg (nums .u8 leaf).toArray) rfl (by kernel_rfl) (by kernel_rfl) (by kernel_rfl) (fun _ _ _ h => h) (yieldsIf_load_mid (by rfl) _ _ rfl (w.heap.size + 1 + 1) 0 rfl (nums .u8 leaf) _ (fun _ h => h.2.2.2) hu25 rfl hiL) hHeld ?_
    simp only [Act.put, List.setIfInBounds_toArray, List.set_cons_zero, List.set_cons_succ]
    refine wpAnyH_take (i := 2) (oi := ({ dst := some 15, op := Op.fieldAddr 46 (Operand.tmp 3) 1, type := 0, pos := "law.go:103", after := #[{ on := 7, ground := Ground.gcOnly Departure.lateStores }], guard := none } : Oper)) (v := .pointer (some ⟨w.heap.size, 1, none⟩)) rfl (by kernel_rfl) (by kernel_rfl) (by kernel_rfl) (fun _ _ _ h => h) (Or.inl ⟨by rfl, fun w hSw => by go_simp⟩) hHeld ?_
    simp only [Act.put, List.setIfInBounds_toArray, List.set_cons_zero, List.set_cons_succ]
    refine wpAnyH_take (i := 3) (oi := ({ dst := some 16, op := Op.load 3 (Operand.tmp 15), type := 3, pos := "law.go:103", after := #[{ on := 2, ground := Ground.data }, { on := 7, ground := Ground.gcOnly Departure.lateStores }], guard := none } : Oper)) (v := .int .i64 (i : Int)) rfl (by kernel_rfl) (by kernel_rfl) (by kernel_rfl) (fun _ _ _ h => h) (Or.inl ⟨by rfl, fun w hSw => by obtain ⟨z0, z1, z2, z3⟩ := hSw; go_simp⟩) hHeld ?_
    simp only [Act.put, List.setIfInBounds_toArray, List.set_cons_zero, List.set_cons_succ]
    have HBa := Lib.hid (below_drew (below_alloc (Below.refl W0.heap.size W0) (.cells Z 24)))
    have HBb := Lib.hid (below_drew (below_alloc (below_alloc (Below.refl W0.heap.size W0) (.cells Z 24)) (.cells Z 24)))
    have HKa := Lib.hid (heap_alloc2_old W0 (.cells Z 24) (.cells Z 24))
    have HKb := Lib.hid (heap_alloc2_new W0 (.cells Z 24) (.cells Z 24))
    have hss := Lib.hid (show Z.size = (nums .u8 leaf).toArray.size from by rw [HZS.out.1, HIL.out.2.2.1])
    obtain ⟨Wb, hWb⟩ : ∃ W, ((W0.alloc (.cells Z 24)).alloc (.cells Z 24)).drew = W := ⟨_, rfl⟩
    have HWb := Lib.hid hWb
    have HBb2 := Lib.hid (show Below W0.heap.size W0 Wb ∧ Wb.heap[W0.heap.size]? = some (.cells Z 24 (0, 0)) ∧ Wb.heap[W0.heap.size + 1]? = some (.cells Z 24 (0, 0)) from by rw [← hWb]; exact ⟨HBb.out, HKa.out, HKb.out⟩)
    clear hWb HKa HKb
    refine wpAnyH_ready (rs := [4, 5]) (by kernel_rfl) (by simp) ?_
    refine AllReadyH.cons (o := ({ dst := some 7, op := Op.alloc 24, type := 0, pos := "law.go:103", after := #[], guard := none } : Oper)) rfl (fun K hK => ?_) (AllReadyH.cons (o := ({ dst := some 8, op := Op.alloc 24, type := 0, pos := "law.go:103", after := #[], guard := none } : Oper)) rfl (fun K hK => ?_) AllReadyH.nil)
    · skip
      go_simp
      refine hK.out _ _ (HSS.out _ HBa.out) (fun hHeld => ?_)
      clear hK K
      try simp only [Act.put, List.setIfInBounds_toArray, List.set_cons_zero, List.set_cons_succ]
      refine wpAnyH_ready (rs := [5]) (by kernel_rfl) (by simp) ?_
      refine AllReadyH.cons (o := ({ dst := some 8, op := Op.alloc 24, type := 0, pos := "law.go:103", after := #[], guard := none } : Oper)) rfl (fun K hK => ?_) AllReadyH.nil
      go_simp
      refine hK.out _ _ (HSS.out _ HBb.out) (fun hHeld => ?_)
      clear hK K
      try simp only [Act.put, List.setIfInBounds_toArray, List.set_cons_zero, List.set_cons_succ]
      rw [HWb.out]
      have HB1 := Lib.hid (below_setRow HBb2.out.1 (show W0.heap.size ≤ W0.heap.size by omega) (nums .u8 leaf).toArray)
      have HK1 := Lib.hid (And.intro (setRow_heap _ _ _ (nums .u8 leaf).toArray _ _ HBb2.out.2.1) ((setRow_other Wb (W0.heap.size) (W0.heap.size + 1) (nums .u8 leaf).toArray (by omega)).trans HBb2.out.2.2))
      refine wpAnyH_ready (rs := [6]) (by kernel_rfl) (by simp) ?_
      refine AllReadyH.cons (o := ({ dst := none, op := Op.store 24 (Operand.tmp 7) (Operand.tmp 13), type := 0, pos := "law.go:103", after := #[{ on := 4, ground := Ground.data }, { on := 0, ground := Ground.data }, { on := 0, ground := Ground.phase }, { on := 1, ground := Ground.textOnly Departure.lateStores }, { on := 2, ground := Ground.textOnly Departure.lateStores }, { on := 3, ground := Ground.textOnly Departure.lateStores }, { on := 4, ground := Ground.phase }, { on := 5, ground := Ground.phase }], guard := none } : Oper)) rfl (fun K hK => ?_) AllReadyH.nil
      rw [if_pos (by rfl)]
      refine wp_store_row 24 (.tmp 7) (.tmp 13) rfl (W0.heap.size) (nums .u8 leaf).toArray (by rfl) (by rfl) 24 Z HBb2.out.2.1 HIL.out.2.1 hss.out HIL.out.2.2.2 ?_
      refine hK.out _ _ (HSS.out _ HB1.out) (fun hHeld => ?_)
      clear hK K
      try simp only [Act.put, List.setIfInBounds_toArray, List.set_cons_zero, List.set_cons_succ]
      have HB2 := Lib.hid (below_setRow HB1.out (show W0.heap.size ≤ W0.heap.size + 1 by omega) (nums .u8 leaf).toArray)
      refine wpAnyH_ready (rs := [7]) (by kernel_rfl) (by simp) ?_
      refine AllReadyH.cons (o := ({ dst := none, op := Op.store 24 (Operand.tmp 8) (Operand.tmp 14), type := 0, pos := "law.go:103", after := #[{ on := 5, ground := Ground.data }, { on := 1, ground := Ground.data }, { on := 6, ground := Ground.chain }, { on := 0, ground := Ground.phase }, { on := 1, ground := Ground.phase }, { on := 2, ground := Ground.textOnly Departure.lateStores }, { on := 3, ground := Ground.textOnly Departure.lateStores }, { on := 4, ground := Ground.phase }, { on := 5, ground := Ground.phase }, { on := 6, ground := Ground.phase }], guard := none } : Oper)) rfl (fun K hK => ?_) AllReadyH.nil
      rw [if_pos (by rfl)]
      refine wp_store_row 24 (.tmp 8) (.tmp 14) rfl (W0.heap.size + 1) (nums .u8 leaf).toArray (by rfl) (by rfl) 24 Z HK1.out.2 HIL.out.2.1 hss.out HIL.out.2.2.2 ?_
      refine hK.out _ _ (HSS.out _ HB2.out) (fun hHeld => ?_)
      clear hK K
      try simp only [Act.put, List.setIfInBounds_toArray, List.set_cons_zero, List.set_cons_succ]
      refine wpAnyH_take (i := 8) (oi := ({ dst := some 9, op := Op.assign (Operand.tmp 16), type := 3, pos := "law.go:103", after := #[{ on := 3, ground := Ground.data }, { on := 7, ground := Ground.chain }, { on := 0, ground := Ground.phase }, { on := 1, ground := Ground.phase }, { on := 2, ground := Ground.phase }, { on := 3, ground := Ground.phase }, { on := 4, ground := Ground.phase }, { on := 5, ground := Ground.phase }, { on := 6, ground := Ground.phase }, { on := 7, ground := Ground.phase }], guard := none } : Oper)) (v := .int .i64 (i : Int)) rfl (by kernel_rfl) (by kernel_rfl) (by kernel_rfl) (fun _ _ _ h => h) (Or.inl ⟨by rfl, fun w hSw => by go_simp⟩) hHeld ?_
      simp only [Act.put, List.setIfInBounds_toArray, List.set_cons_zero, List.set_cons_succ]
      refine wpAnyH_done (by kernel_rfl) ?_ _
      clear hHeld
      go_wp2_with fail
      go_meet
      exact ⟨_, _, rfl, rfl, rfl, Lib.hid ⟨by omega, by omega, by omega, (setRow_other _ _ _ _ (by omega)).trans HK1.out.1, setRow_heap _ _ _ _ _ _ HK1.out.2, HB2.out⟩⟩
    · skip
      go_simp
      refine hK.out _ _ (HSS.out _ HBa.out) (fun hHeld => ?_)
      clear hK K
      try simp only [Act.put, List.setIfInBounds_toArray, List.set_cons_zero, List.set_cons_succ]
      refine wpAnyH_ready (rs := [4]) (by kernel_rfl) (by simp) ?_
      refine AllReadyH.cons (o := ({ dst := some 7, op := Op.alloc 24, type := 0, pos := "law.go:103", after := #[], guard := none } : Oper)) rfl (fun K hK => ?_) AllReadyH.nil
      go_simp
      refine hK.out _ _ (HSS.out _ HBb.out) (fun hHeld => ?_)
      clear hK K
      try simp only [Act.put, List.setIfInBounds_toArray, List.set_cons_zero, List.set_cons_succ]
      rw [HWb.out]
      have HB1 := Lib.hid (below_setRow HBb2.out.1 (show W0.heap.size ≤ W0.heap.size + 1 by omega) (nums .u8 leaf).toArray)
      have HK1 := Lib.hid (And.intro (setRow_heap _ _ _ (nums .u8 leaf).toArray _ _ HBb2.out.2.2) ((setRow_other Wb (W0.heap.size + 1) (W0.heap.size) (nums .u8 leaf).toArray (by omega)).trans HBb2.out.2.1))
      refine wpAnyH_ready (rs := [6]) (by kernel_rfl) (by simp) ?_
      refine AllReadyH.cons (o := ({ dst := none, op := Op.store 24 (Operand.tmp 7) (Operand.tmp 13), type := 0, pos := "law.go:103", after := #[{ on := 4, ground := Ground.data }, { on := 0, ground := Ground.data }, { on := 0, ground := Ground.phase }, { on := 1, ground := Ground.textOnly Departure.lateStores }, { on := 2, ground := Ground.textOnly Departure.lateStores }, { on := 3, ground := Ground.textOnly Departure.lateStores }, { on := 4, ground := Ground.phase }, { on := 5, ground := Ground.phase }], guard := none } : Oper)) rfl (fun K hK => ?_) AllReadyH.nil
      rw [if_pos (by rfl)]
      refine wp_store_row 24 (.tmp 7) (.tmp 13) rfl (W0.heap.size + 1) (nums .u8 leaf).toArray (by rfl) (by rfl) 24 Z HBb2.out.2.2 HIL.out.2.1 hss.out HIL.out.2.2.2 ?_
      refine hK.out _ _ (HSS.out _ HB1.out) (fun hHeld => ?_)
      clear hK K
      try simp only [Act.put, List.setIfInBounds_toArray, List.set_cons_zero, List.set_cons_succ]
      have HB2 := Lib.hid (below_setRow HB1.out (show W0.heap.size ≤ W0.heap.size by omega) (nums .u8 leaf).toArray)
      refine wpAnyH_ready (rs := [7]) (by kernel_rfl) (by simp) ?_
      refine AllReadyH.cons (o := ({ dst := none, op := Op.store 24 (Operand.tmp 8) (Operand.tmp 14), type := 0, pos := "law.go:103", after := #[{ on := 5, ground := Ground.data }, { on := 1, ground := Ground.data }, { on := 6, ground := Ground.chain }, { on := 0, ground := Ground.phase }, { on := 1, ground := Ground.phase }, { on := 2, ground := Ground.textOnly Departure.lateStores }, { on := 3, ground := Ground.textOnly Departure.lateStores }, { on := 4, ground := Ground.phase }, { on := 5, ground := Ground.phase }, { on := 6, ground := Ground.phase }], guard := none } : Oper)) rfl (fun K hK => ?_) AllReadyH.nil
      rw [if_pos (by rfl)]
      refine wp_store_row 24 (.tmp 8) (.tmp 14) rfl (W0.heap.size) (nums .u8 leaf).toArray (by rfl) (by rfl) 24 Z HK1.out.2 HIL.out.2.1 hss.out HIL.out.2.2.2 ?_
      refine hK.out _ _ (HSS.out _ HB2.out) (fun hHeld => ?_)
      clear hK K
      try simp only [Act.put, List.setIfInBounds_toArray, List.set_cons_zero, List.set_cons_succ]
      refine wpAnyH_take (i := 8) (oi := ({ dst := some 9, op := Op.assign (Operand.tmp 16), type := 3, pos := "law.go:103", after := #[{ on := 3, ground := Ground.data }, { on := 7, ground := Ground.chain }, { on := 0, ground := Ground.phase }, { on := 1, ground := Ground.phase }, { on := 2, ground := Ground.phase }, { on := 3, ground := Ground.phase }, { on := 4, ground := Ground.phase }, { on := 5, ground := Ground.phase }, { on := 6, ground := Ground.phase }, { on := 7, ground := Ground.phase }], guard := none } : Oper)) (v := .int .i64 (i : Int)) rfl (by kernel_rfl) (by kernel_rfl) (by kernel_rfl) (fun _ _ _ h => h) (Or.inl ⟨by rfl, fun w hSw => by go_simp⟩) hHeld ?_
      simp only [Act.put, List.setIfInBounds_toArray, List.set_cons_zero, List.set_cons_succ]
      refine wpAnyH_done (by kernel_rfl) ?_ _
      clear hHeld
      go_wp2_with fail
      go_meet
      exact ⟨_, _, rfl, rfl, rfl, Lib.hid ⟨by omega, by omega, by omega, (setRow_other _ _ _ _ (by omega)).trans HK1.out.1, setRow_heap _ _ _ _ _ _ HK1.out.2, HB2.out⟩⟩
  case rest =>
    obtain ⟨g, h, rfl, rfl, rfl, HG⟩ := hcut
    generalize wc = W1 at *
    have HGN := Lib.hid (And.intro HG.out.1 (And.intro HG.out.2.1 HG.out.2.2.1))
    go_wp2_with fail
    go_loopw [9, 10] (fun vp vk wr => ∃ (k p : Nat) (x y : List Int), vp = .int .i64 (p : Int) ∧ vk = .int .i64 (k : Int) ∧ Hid ((k ≤ m ∧ p ≤ 65536) ∧ ((x.length = 32 ∧ ∀ z ∈ x, 0 ≤ z ∧ z < 256) ∧ (y.length = 32 ∧ ∀ z ∈ y, 0 ≤ z ∧ z < 256)) ∧ (wr.heap[g]? = some (.cells (nums .u8 x).toArray 24 (0, 0)) ∧ wr.heap[h]? = some (.cells (nums .u8 y).toArray 24 (0, 0))) ∧ Below W0.heap.size W0 wr ∧ meetsF (us.drop k) (vs.drop k) p x y = R)) (fun _ vk _ => m + 1 - (intOf vk).toNat)
    case atStart => exact ⟨0, i, leaf, leaf, rfl, rfl, Lib.hid ⟨⟨Nat.zero_le _, hi⟩, ⟨HLF.out, HLF.out⟩, ⟨HG.out.2.2.2.1, HG.out.2.2.2.2.1⟩, HG.out.2.2.2.2.2, by rw [List.drop_zero, List.drop_zero]; exact HR.out⟩⟩
    case round =>
      obtain ⟨k, p, x, y, rfl, rfl, H⟩ := hrel
      have HWR := Lib.hid H.out.2.2.2.1
      obtain ⟨l28, l28b, _, _⟩ := HSS.out _ HWR.out
      by_cases hlt : k < m
      · obtain ⟨⟨hkm, hp1⟩, ⟨hx, hy⟩, ⟨hgx, hhy⟩, hb, heq⟩ := H.out
        have hus := HUV.out
        have gk : (k : Int) < (m : Int) := by omega
        have gk0 : (0 : Int) ≤ (k : Int) := by omega
        obtain ⟨b1, o1, rfl, hbl1, hrg1⟩ := C_hash (w := wr) (A := A) (xs := us) (by rw [← hus.1]; exact (HAA.out _ HWR.out).1) (by rw [← hus.1]; omega)
        obtain ⟨b2, o2, rfl, hbl2, hrg2⟩ := C_hash (w := wr) (A := B) (xs := vs) (by rw [← hus.2.1]; exact (HAA.out _ HWR.out).2.1) (by rw [← hus.2.1]; omega)
        have r1 := (hrg1 k (by rw [← hus.1]; exact hlt)).1
        have r2 := (hrg2 k (by rw [← hus.2.1]; exact hlt)).1
        rw [meetsF_cons (by rw [← hus.1]; exact hlt) (by rw [← hus.2.1]; exact hlt)] at heq
        have ha := hus.2.2.1.any k
        have hbh := hus.2.2.2.any k
        obtain ⟨a, hae⟩ : ∃ q, rdH us k = q := ⟨_, rfl⟩
        obtain ⟨b, hbe⟩ : ∃ q, rdH vs k = q := ⟨_, rfl⟩
        rw [hae] at r1 ha heq
        rw [hbe] at r2 hbh heq
        have hix := (HF.out x hx.1).1
        have hiy := (HF.out y hy.1).1
        have hia := (HF.out a ha.1).1
        have hib := (HF.out b hbh.1).1
        have HS5 := Lib.hid (show ∀ u : World, Below wr.heap.size wr u → u.rangeAt g 0 (nums .u8 x) ∧ u.rangeAt h 0 (nums .u8 y) ∧ (loadVar 28 ⟨w.heap.size, 2, none⟩).run Tryd.prog u = .ok (.slice (some ⟨b1, o1, none⟩) m c) u ∧ (loadVar 28 ⟨w.heap.size + 1, 2, none⟩).run Tryd.prog u = .ok (.slice (some ⟨b2, o2, none⟩) m c2) u ∧ u.rangeAt b1 (o1 + k * 32) (nums .u8 a) ∧ u.rangeAt b2 (o2 + k * 32) (nums .u8 b) from fun u hu => by
          obtain ⟨z1, z2, _, _⟩ := HSS.out u (HWR.out.trans (Below.mono hu HWR.out.size))
          exact ⟨range_of ((hu.block _ (blk_lt hgx)).trans hgx), range_of ((hu.block _ (blk_lt hhy)).trans hhy), z1, z2, range_below hu hbl1 r1, range_below hu hbl2 r2⟩)
        have HGH := Lib.hid (And.intro hgx (And.intro hhy (And.intro (blk_lt hgx) (blk_lt hhy))))
        have HB5 := Lib.hid (show ∀ u : World, Below wr.heap.size wr u → Below W0.heap.size W0 u from fun u hu => HWR.out.trans (Below.mono hu HWR.out.size))
        -- the two texts
        have H87 := Lib.hid (show ∀ p q : List Int, p.length = 32 → q.length = 32 → ∀ X, nums .u8 p ++ nums .u8 q = X → (Tryd.prog.info? 87).map (·.size) = some X.toArray.size ∧ Z2.size = X.toArray.size ∧ X.toArray.all (·.oneCell') = true from fun p q hp hq X e => by
          subst e
          have hl : (nums .u8 p ++ nums .u8 q).length = 64 := by rw [List.length_append, nums_len, nums_len, hp, hq]
          refine ⟨by rw [List.size_toArray, hl]; exact (zero_of_info info87).2, HZS.out.2.trans (by rw [List.size_toArray, hl]), all_oneCell_toArray (fun v hv => ?_)⟩
          rcases List.mem_append.1 hv with h | h
          · exact nums_one _ _ v h
          · exact nums_one _ _ v h)
        have hb1 := fun u => run_build (P := Tryd.prog) u 87 #[(0, .agg (nums .u8 x).toArray), (1, .agg (nums .u8 a).toArray)] _ (built87 x a hx.1 ha.1)
        have hb2 := fun u => run_build (P := Tryd.prog) u 87 #[(0, .agg (nums .u8 y).toArray), (1, .agg (nums .u8 b).toArray)] _ (built87 y b hy.1 hbh.1)
        have hb3 := fun u => run_build (P := Tryd.prog) u 87 #[(0, .agg (nums .u8 a).toArray), (1, .agg (nums .u8 x).toArray)] _ (built87 a x ha.1 hx.1)
        have hb4 := fun u => run_build (P := Tryd.prog) u 87 #[(0, .agg (nums .u8 b).toArray), (1, .agg (nums .u8 y).toArray)] _ (built87 b y hbh.1 hy.1)
        obtain ⟨XA, hXA⟩ : ∃ q, nums .u8 x ++ nums .u8 a = q := ⟨_, rfl⟩
        obtain ⟨YB, hYB⟩ : ∃ q, nums .u8 y ++ nums .u8 b = q := ⟨_, rfl⟩
        obtain ⟨AX, hAX⟩ : ∃ q, nums .u8 a ++ nums .u8 x = q := ⟨_, rfl⟩
        obtain ⟨BY, hBY⟩ : ∃ q, nums .u8 b ++ nums .u8 y = q := ⟨_, rfl⟩
        have HXA := Lib.hid (H87.out _ _ hx.1 ha.1 _ hXA)
        have HYB := Lib.hid (H87.out _ _ hy.1 hbh.1 _ hYB)
        have HAX := Lib.hid (H87.out _ _ ha.1 hx.1 _ hAX)
        have HBY := Lib.hid (H87.out _ _ hbh.1 hy.1 _ hBY)
        rw [hXA] at hb1
        rw [hYB] at hb2
        rw [hAX] at hb3
        rw [hBY] at hb4
        obtain ⟨U, V, U2, V2, PX, PY, hPF⟩ : ∃ U V U2 V2 PX PY, (pairF p x a = [U, V] ∧ pairF p y b = [U2, V2]) ∧ (nums .u8 U ++ nums .u8 V = PX ∧ nums .u8 U2 ++ nums .u8 V2 = PY) ∧ (U.length = 32 ∧ V.length = 32 ∧ U2.length = 32 ∧ V2.length = 32) ∧ ((∀ z ∈ U, 0 ≤ z ∧ z < 256) ∧ (∀ z ∈ V, 0 ≤ z ∧ z < 256) ∧ (∀ z ∈ U2, 0 ≤ z ∧ z < 256) ∧ (∀ z ∈ V2, 0 ≤ z ∧ z < 256)) ∧ (p % 2 = 1 → PX = AX ∧ PY = BY) ∧ (¬ p % 2 = 1 → PX = XA ∧ PY = YB) := by
          by_cases od : p % 2 = 1
          · exact ⟨a, x, b, y, AX, BY, ⟨by unfold pairF; rw [if_pos od], by unfold pairF; rw [if_pos od]⟩, ⟨hAX, hBY⟩, ⟨ha.1, hx.1, hbh.1, hy.1⟩, ⟨ha.2, hx.2, hbh.2, hy.2⟩, fun _ => ⟨rfl, rfl⟩, fun h => absurd od h⟩
          · exact ⟨x, a, y, b, XA, YB, ⟨by unfold pairF; rw [if_neg od], by unfold pairF; rw [if_neg od]⟩, ⟨hXA, hYB⟩, ⟨hx.1, ha.1, hy.1, hbh.1⟩, ⟨hx.2, ha.2, hy.2, hbh.2⟩, fun h => absurd h od, fun _ => ⟨rfl, rfl⟩⟩
        rw [hPF.1.1, hPF.1.2, show [U, V].flatten = U ++ V by simp, show [U2, V2].flatten = U2 ++ V2 by simp] at heq
        have HPF := Lib.hid hPF.2
        have HQ := Lib.hid heq
        have HNUM := Lib.hid (And.intro hlt hp1)
        have HXY := Lib.hid (And.intro hx.1 hy.1)
        clear hPF heq hXA hYB hAX hBY hus ha hbh hae hbe r1 r2 hrg1 hrg2 hbl1 hbl2 H hgx hhy hx hy hb hkm
        go_upto_region 5 with fail
        clear l28 l28b
        have HBD := Lib.hid (below_drew (Below.refl wr.heap.size wr))
        go_cut [11, 12] from 17 to 81 (fun x11 x12 wx => ∃ s t, x11 = .pointer (some ⟨s, 0, none⟩) ∧ x12 = .pointer (some ⟨t, 0, none⟩) ∧ Hid (s ≠ t ∧ wr.heap.size ≤ s ∧ wr.heap.size ≤ t ∧ wx.heap[s]? = some (.cells XA.toArray 87 (0, 0)) ∧ wx.heap[t]? = some (.cells YB.toArray 87 (0, 0)) ∧ Below wr.heap.size wr wx))
        case first =>
          have hHeld := HS5.out _ HBD.out
          refine wp_region_held (S := fun u => u.rangeAt g 0 (nums .u8 x) ∧ u.rangeAt h 0 (nums .u8 y) ∧ (loadVar 28 ⟨w.heap.size, 2, none⟩).run Tryd.prog u = .ok (.slice (some ⟨b1, o1, none⟩) m c) u ∧ (loadVar 28 ⟨w.heap.size + 1, 2, none⟩).run Tryd.prog u = .ok (.slice (some ⟨b2, o2, none⟩) m c2) u ∧ u.rangeAt b1 (o1 + k * 32) (nums .u8 a) ∧ u.rangeAt b2 (o2 + k * 32) (nums .u8 b)) (by kernel_rfl) ?_
          change wpAnyH _ _ _ _ _ _ _ _ (World.drew _)
          refine wpAnyH_take (i := 0) (oi := ({ dst := some 31, op := Op.load 24 (Operand.tmp 7), type := 24, pos := "law.go:105", after := #[], guard := none } : Oper)) (v := .agg (nums .u8 x).toArray) rfl (by kernel_rfl) (by kernel_rfl) (by kernel_rfl) (fun _ _ _ h => h) (yieldsIf_load_mid (by rfl) _ _ rfl g 0 rfl (nums .u8 x) _ (fun _ h => h.1) hu24 rfl hix) hHeld ?_
          simp only [Act.put, List.setIfInBounds_toArray, List.set_cons_zero, List.set_cons_succ]
          refine wpAnyH_take (i := 1) (oi := ({ dst := some 32, op := Op.fieldAddr 46 (Operand.tmp 3) 2, type := 0, pos := "law.go:105", after := #[], guard := none } : Oper)) (v := .pointer (some ⟨w.heap.size, 2, none⟩)) rfl (by kernel_rfl) (by kernel_rfl) (by kernel_rfl) (fun _ _ _ h => h) (Or.inl ⟨by rfl, fun w hSw => by go_simp⟩) hHeld ?_
          simp only [Act.put, List.setIfInBounds_toArray, List.set_cons_zero, List.set_cons_succ]
          refine wpAnyH_take (i := 2) (oi := ({ dst := some 33, op := Op.load 28 (Operand.tmp 32), type := 28, pos := "law.go:105", after := #[{ on := 1, ground := Ground.data }], guard := none } : Oper)) (v := .slice (some ⟨b1, o1, none⟩) m c) rfl (by kernel_rfl) (by kernel_rfl) (by kernel_rfl) (fun _ _ _ h => h) (Or.inl ⟨by rfl, fun w hSw => by obtain ⟨z0, z1, z2, z3, z4, z5⟩ := hSw; go_simp⟩) hHeld ?_
          simp only [Act.put, List.setIfInBounds_toArray, List.set_cons_zero, List.set_cons_succ]
          refine wpAnyH_take (i := 3) (oi := ({ dst := some 34, op := Op.move (Operand.tmp 10), type := 3, pos := "law.go:105", after := #[], guard := none } : Oper)) (v := .int .i64 (k : Int)) rfl (by kernel_rfl) (by kernel_rfl) (by kernel_rfl) (fun _ _ _ h => h) (Or.inl ⟨by rfl, fun w hSw => by go_simp⟩) hHeld ?_
          simp only [Act.put, List.setIfInBounds_toArray, List.set_cons_zero, List.set_cons_succ]
          refine wpAnyH_take (i := 4) (oi := ({ dst := some 35, op := Op.indexAddr 28 (Operand.tmp 33) (Operand.tmp 34), type := 0, pos := "law.go:105", after := #[{ on := 2, ground := Ground.data }, { on := 3, ground := Ground.data }], guard := none } : Oper)) (v := .pointer (some ⟨b1, o1 + k * 32, none⟩)) rfl (by kernel_rfl) (by kernel_rfl) (by kernel_rfl) (fun _ _ _ h => h) (Or.inl ⟨by rfl, fun w hSw => by go_simp⟩) hHeld ?_
          simp only [Act.put, List.setIfInBounds_toArray, List.set_cons_zero, List.set_cons_succ]
          refine wpAnyH_take (i := 5) (oi := ({ dst := some 36, op := Op.load 24 (Operand.tmp 35), type := 24, pos := "law.go:105", after := #[{ on := 4, ground := Ground.data }], guard := none } : Oper)) (v := .agg (nums .u8 a).toArray) rfl (by kernel_rfl) (by kernel_rfl) (by kernel_rfl) (fun _ _ _ h => h) (yieldsIf_load_mid (by rfl) _ _ rfl b1 (o1 + k * 32) rfl (nums .u8 a) _ (fun _ h => h.2.2.2.2.1) hu24 rfl hia) hHeld ?_
          simp only [Act.put, List.setIfInBounds_toArray, List.set_cons_zero, List.set_cons_succ]
          refine wpAnyH_take (i := 6) (oi := ({ dst := some 37, op := Op.build 87 #[(0, Operand.tmp 31), (1, Operand.tmp 36)], type := 87, pos := "law.go:105", after := #[{ on := 0, ground := Ground.data }, { on := 5, ground := Ground.data }], guard := none } : Oper)) (v := .agg XA.toArray) rfl (by kernel_rfl) (by kernel_rfl) (by kernel_rfl) (fun _ _ _ h => h) (Or.inl ⟨by rfl, fun w hSw => by go_simp⟩) hHeld ?_
          simp only [Act.put, List.setIfInBounds_toArray, List.set_cons_zero, List.set_cons_succ]
          refine wpAnyH_take (i := 7) (oi := ({ dst := some 38, op := Op.load 24 (Operand.tmp 8), type := 24, pos := "law.go:105", after := #[{ on := 16, ground := Ground.gcOnly Departure.lateStores }], guard := none } : Oper)) (v := .agg (nums .u8 y).toArray) rfl (by kernel_rfl) (by kernel_rfl) (by kernel_rfl) (fun _ _ _ h => h) (yieldsIf_load_mid (by rfl) _ _ rfl h 0 rfl (nums .u8 y) _ (fun _ h => h.2.1) hu24 rfl hiy) hHeld ?_
          simp only [Act.put, List.setIfInBounds_toArray, List.set_cons_zero, List.set_cons_succ]
          refine wpAnyH_take (i := 8) (oi := ({ dst := some 39, op := Op.fieldAddr 46 (Operand.tmp 4) 2, type := 0, pos := "law.go:105", after := #[{ on := 16, ground := Ground.gcOnly Departure.lateStores }], guard := none } : Oper)) (v := .pointer (some ⟨w.heap.size + 1, 2, none⟩)) rfl (by kernel_rfl) (by kernel_rfl) (by kernel_rfl) (fun _ _ _ h => h) (Or.inl ⟨by rfl, fun w hSw => by go_simp⟩) hHeld ?_
          simp only [Act.put, List.setIfInBounds_toArray, List.set_cons_zero, List.set_cons_succ]
          refine wpAnyH_take (i := 9) (oi := ({ dst := some 40, op := Op.load 28 (Operand.tmp 39), type := 28, pos := "law.go:105", after := #[{ on := 8, ground := Ground.data }, { on := 16, ground := Ground.gcOnly Departure.lateStores }], guard := none } : Oper)) (v := .slice (some ⟨b2, o2, none⟩) m c2) rfl (by kernel_rfl) (by kernel_rfl) (by kernel_rfl) (fun _ _ _ h => h) (Or.inl ⟨by rfl, fun w hSw => by obtain ⟨z0, z1, z2, z3, z4, z5⟩ := hSw; go_simp⟩) hHeld ?_
          simp only [Act.put, List.setIfInBounds_toArray, List.set_cons_zero, List.set_cons_succ]
          refine wpAnyH_take (i := 10) (oi := ({ dst := some 41, op := Op.move (Operand.tmp 10), type := 3, pos := "law.go:105", after := #[{ on := 16, ground := Ground.gcOnly Departure.lateStores }], guard := none } : Oper)) (v := .int .i64 (k : Int)) rfl (by kernel_rfl) (by kernel_rfl) (by kernel_rfl) (fun _ _ _ h => h) (Or.inl ⟨by rfl, fun w hSw => by go_simp⟩) hHeld ?_
          simp only [Act.put, List.setIfInBounds_toArray, List.set_cons_zero, List.set_cons_succ]
          refine wpAnyH_take (i := 11) (oi := ({ dst := some 42, op := Op.indexAddr 28 (Operand.tmp 40) (Operand.tmp 41), type := 0, pos := "law.go:105", after := #[{ on := 9, ground := Ground.data }, { on := 10, ground := Ground.data }, { on := 16, ground := Ground.gcOnly Departure.lateStores }], guard := none } : Oper)) (v := .pointer (some ⟨b2, o2 + k * 32, none⟩)) rfl (by kernel_rfl) (by kernel_rfl) (by kernel_rfl) (fun _ _ _ h => h) (Or.inl ⟨by rfl, fun w hSw => by go_simp⟩) hHeld ?_
          simp only [Act.put, List.setIfInBounds_toArray, List.set_cons_zero, List.set_cons_succ]
          refine wpAnyH_take (i := 12) (oi := ({ dst := some 43, op := Op.load 24 (Operand.tmp 42), type := 24, pos := "law.go:105", after := #[{ on := 11, ground := Ground.data }, { on := 16, ground := Ground.gcOnly Departure.lateStores }], guard := none } : Oper)) (v := .agg (nums .u8 b).toArray) rfl (by kernel_rfl) (by kernel_rfl) (by kernel_rfl) (fun _ _ _ h => h) (yieldsIf_load_mid (by rfl) _ _ rfl b2 (o2 + k * 32) rfl (nums .u8 b) _ (fun _ h => h.2.2.2.2.2) hu24 rfl hib) hHeld ?_
          simp only [Act.put, List.setIfInBounds_toArray, List.set_cons_zero, List.set_cons_succ]
          refine wpAnyH_take (i := 13) (oi := ({ dst := some 44, op := Op.build 87 #[(0, Operand.tmp 38), (1, Operand.tmp 43)], type := 87, pos := "law.go:105", after := #[{ on := 7, ground := Ground.data }, { on := 12, ground := Ground.data }, { on := 16, ground := Ground.gcOnly Departure.lateStores }], guard := none } : Oper)) (v := .agg YB.toArray) rfl (by kernel_rfl) (by kernel_rfl) (by kernel_rfl) (fun _ _ _ h => h) (Or.inl ⟨by rfl, fun w hSw => by go_simp⟩) hHeld ?_
          simp only [Act.put, List.setIfInBounds_toArray, List.set_cons_zero, List.set_cons_succ]
          have HBa := Lib.hid (below_drew (below_alloc (Below.refl wr.heap.size wr) (.cells Z2 87)))
          have HBb := Lib.hid (below_drew (below_alloc (below_alloc (Below.refl wr.heap.size wr) (.cells Z2 87)) (.cells Z2 87)))
          obtain ⟨Wb, hWb⟩ : ∃ W, ((wr.alloc (.cells Z2 87)).alloc (.cells Z2 87)).drew = W := ⟨_, rfl⟩
          have HWb := Lib.hid hWb
          have HBb2 := Lib.hid (show Below wr.heap.size wr Wb ∧ Wb.heap[wr.heap.size]? = some (.cells Z2 87 (0, 0)) ∧ Wb.heap[wr.heap.size + 1]? = some (.cells Z2 87 (0, 0)) from by rw [← hWb]; exact ⟨HBb.out, heap_alloc2_old wr _ _, heap_alloc2_new wr _ _⟩)
          clear hWb hb1 hb2 hb3 hb4
          refine wpAnyH_ready (rs := [14, 15]) (by kernel_rfl) (by simp) ?_
          refine AllReadyH.cons (o := ({ dst := some 11, op := Op.alloc 87, type := 0, pos := "law.go:105", after := #[], guard := none } : Oper)) rfl (fun K hK => ?_) (AllReadyH.cons (o := ({ dst := some 12, op := Op.alloc 87, type := 0, pos := "law.go:105", after := #[], guard := none } : Oper)) rfl (fun K hK => ?_) AllReadyH.nil)
          · skip
            go_simp
            refine hK.out _ _ (HS5.out _ HBa.out) (fun hHeld => ?_)
            clear hK K
            try simp only [Act.put, List.setIfInBounds_toArray, List.set_cons_zero, List.set_cons_succ]
            refine wpAnyH_ready (rs := [15]) (by kernel_rfl) (by simp) ?_
            refine AllReadyH.cons (o := ({ dst := some 12, op := Op.alloc 87, type := 0, pos := "law.go:105", after := #[], guard := none } : Oper)) rfl (fun K hK => ?_) AllReadyH.nil
            go_simp
            refine hK.out _ _ (HS5.out _ HBb.out) (fun hHeld => ?_)
            clear hK K
            try simp only [Act.put, List.setIfInBounds_toArray, List.set_cons_zero, List.set_cons_succ]
            rw [HWb.out]
            have HB1 := Lib.hid (below_setRow HBb2.out.1 (show wr.heap.size ≤ wr.heap.size by omega) XA.toArray)
            have HK1 := Lib.hid (And.intro (setRow_heap _ _ _ XA.toArray _ _ HBb2.out.2.1) ((setRow_other Wb (wr.heap.size) (wr.heap.size + 1) XA.toArray (by omega)).trans HBb2.out.2.2))
            refine wpAnyH_ready (rs := [16]) (by kernel_rfl) (by simp) ?_
            refine AllReadyH.cons (o := ({ dst := none, op := Op.store 87 (Operand.tmp 11) (Operand.tmp 37), type := 0, pos := "law.go:105", after := #[{ on := 14, ground := Ground.data }, { on := 6, ground := Ground.data }, { on := 0, ground := Ground.phase }, { on := 1, ground := Ground.phase }, { on := 2, ground := Ground.phase }, { on := 3, ground := Ground.phase }, { on := 4, ground := Ground.phase }, { on := 5, ground := Ground.phase }, { on := 6, ground := Ground.phase }, { on := 7, ground := Ground.textOnly Departure.lateStores }, { on := 8, ground := Ground.textOnly Departure.lateStores }, { on := 9, ground := Ground.textOnly Departure.lateStores }, { on := 10, ground := Ground.textOnly Departure.lateStores }, { on := 11, ground := Ground.textOnly Departure.lateStores }, { on := 12, ground := Ground.textOnly Departure.lateStores }, { on := 13, ground := Ground.textOnly Departure.lateStores }, { on := 14, ground := Ground.phase }, { on := 15, ground := Ground.phase }], guard := none } : Oper)) rfl (fun K hK => ?_) AllReadyH.nil
            rw [if_pos (by rfl)]
            refine wp_store_row 87 (.tmp 11) (.tmp 37) rfl (wr.heap.size) XA.toArray (by rfl) (by rfl) 87 Z2 HBb2.out.2.1 HXA.out.1 HXA.out.2.1 HXA.out.2.2 ?_
            refine hK.out _ _ (HS5.out _ HB1.out) (fun hHeld => ?_)
            clear hK K
            try simp only [Act.put, List.setIfInBounds_toArray, List.set_cons_zero, List.set_cons_succ]
            have HB2 := Lib.hid (below_setRow HB1.out (show wr.heap.size ≤ wr.heap.size + 1 by omega) YB.toArray)
            refine wpAnyH_ready (rs := [17]) (by kernel_rfl) (by simp) ?_
            refine AllReadyH.cons (o := ({ dst := none, op := Op.store 87 (Operand.tmp 12) (Operand.tmp 44), type := 0, pos := "law.go:105", after := #[{ on := 15, ground := Ground.data }, { on := 13, ground := Ground.data }, { on := 16, ground := Ground.chain }, { on := 0, ground := Ground.phase }, { on := 1, ground := Ground.phase }, { on := 2, ground := Ground.phase }, { on := 3, ground := Ground.phase }, { on := 4, ground := Ground.phase }, { on := 5, ground := Ground.phase }, { on := 6, ground := Ground.phase }, { on := 7, ground := Ground.phase }, { on := 8, ground := Ground.phase }, { on := 9, ground := Ground.phase }, { on := 10, ground := Ground.phase }, { on := 11, ground := Ground.phase }, { on := 12, ground := Ground.phase }, { on := 13, ground := Ground.phase }, { on := 14, ground := Ground.phase }, { on := 15, ground := Ground.phase }, { on := 16, ground := Ground.phase }], guard := none } : Oper)) rfl (fun K hK => ?_) AllReadyH.nil
            rw [if_pos (by rfl)]
            refine wp_store_row 87 (.tmp 12) (.tmp 44) rfl (wr.heap.size + 1) YB.toArray (by rfl) (by rfl) 87 Z2 HK1.out.2 HYB.out.1 HYB.out.2.1 HYB.out.2.2 ?_
            refine hK.out _ _ (HS5.out _ HB2.out) (fun hHeld => ?_)
            clear hK K
            try simp only [Act.put, List.setIfInBounds_toArray, List.set_cons_zero, List.set_cons_succ]
            refine wpAnyH_done (by kernel_rfl) ?_ _
            clear hHeld
            go_wp2_with fail
            go_meet
            exact ⟨_, _, rfl, rfl, Lib.hid ⟨by omega, by omega, by omega, (setRow_other _ _ _ _ (by omega)).trans HK1.out.1, setRow_heap _ _ _ _ _ _ HK1.out.2, HB2.out⟩⟩
          · skip
            go_simp
            refine hK.out _ _ (HS5.out _ HBa.out) (fun hHeld => ?_)
            clear hK K
            try simp only [Act.put, List.setIfInBounds_toArray, List.set_cons_zero, List.set_cons_succ]
            refine wpAnyH_ready (rs := [14]) (by kernel_rfl) (by simp) ?_
            refine AllReadyH.cons (o := ({ dst := some 11, op := Op.alloc 87, type := 0, pos := "law.go:105", after := #[], guard := none } : Oper)) rfl (fun K hK => ?_) AllReadyH.nil
            go_simp
            refine hK.out _ _ (HS5.out _ HBb.out) (fun hHeld => ?_)
            clear hK K
            try simp only [Act.put, List.setIfInBounds_toArray, List.set_cons_zero, List.set_cons_succ]
            rw [HWb.out]
            have HB1 := Lib.hid (below_setRow HBb2.out.1 (show wr.heap.size ≤ wr.heap.size + 1 by omega) XA.toArray)
            have HK1 := Lib.hid (And.intro (setRow_heap _ _ _ XA.toArray _ _ HBb2.out.2.2) ((setRow_other Wb (wr.heap.size + 1) (wr.heap.size) XA.toArray (by omega)).trans HBb2.out.2.1))
            refine wpAnyH_ready (rs := [16]) (by kernel_rfl) (by simp) ?_
            refine AllReadyH.cons (o := ({ dst := none, op := Op.store 87 (Operand.tmp 11) (Operand.tmp 37), type := 0, pos := "law.go:105", after := #[{ on := 14, ground := Ground.data }, { on := 6, ground := Ground.data }, { on := 0, ground := Ground.phase }, { on := 1, ground := Ground.phase }, { on := 2, ground := Ground.phase }, { on := 3, ground := Ground.phase }, { on := 4, ground := Ground.phase }, { on := 5, ground := Ground.phase }, { on := 6, ground := Ground.phase }, { on := 7, ground := Ground.textOnly Departure.lateStores }, { on := 8, ground := Ground.textOnly Departure.lateStores }, { on := 9, ground := Ground.textOnly Departure.lateStores }, { on := 10, ground := Ground.textOnly Departure.lateStores }, { on := 11, ground := Ground.textOnly Departure.lateStores }, { on := 12, ground := Ground.textOnly Departure.lateStores }, { on := 13, ground := Ground.textOnly Departure.lateStores }, { on := 14, ground := Ground.phase }, { on := 15, ground := Ground.phase }], guard := none } : Oper)) rfl (fun K hK => ?_) AllReadyH.nil
            rw [if_pos (by rfl)]
            refine wp_store_row 87 (.tmp 11) (.tmp 37) rfl (wr.heap.size + 1) XA.toArray (by rfl) (by rfl) 87 Z2 HBb2.out.2.2 HXA.out.1 HXA.out.2.1 HXA.out.2.2 ?_
            refine hK.out _ _ (HS5.out _ HB1.out) (fun hHeld => ?_)
            clear hK K
            try simp only [Act.put, List.setIfInBounds_toArray, List.set_cons_zero, List.set_cons_succ]
            have HB2 := Lib.hid (below_setRow HB1.out (show wr.heap.size ≤ wr.heap.size by omega) YB.toArray)
            refine wpAnyH_ready (rs := [17]) (by kernel_rfl) (by simp) ?_
            refine AllReadyH.cons (o := ({ dst := none, op := Op.store 87 (Operand.tmp 12) (Operand.tmp 44), type := 0, pos := "law.go:105", after := #[{ on := 15, ground := Ground.data }, { on := 13, ground := Ground.data }, { on := 16, ground := Ground.chain }, { on := 0, ground := Ground.phase }, { on := 1, ground := Ground.phase }, { on := 2, ground := Ground.phase }, { on := 3, ground := Ground.phase }, { on := 4, ground := Ground.phase }, { on := 5, ground := Ground.phase }, { on := 6, ground := Ground.phase }, { on := 7, ground := Ground.phase }, { on := 8, ground := Ground.phase }, { on := 9, ground := Ground.phase }, { on := 10, ground := Ground.phase }, { on := 11, ground := Ground.phase }, { on := 12, ground := Ground.phase }, { on := 13, ground := Ground.phase }, { on := 14, ground := Ground.phase }, { on := 15, ground := Ground.phase }, { on := 16, ground := Ground.phase }], guard := none } : Oper)) rfl (fun K hK => ?_) AllReadyH.nil
            rw [if_pos (by rfl)]
            refine wp_store_row 87 (.tmp 12) (.tmp 44) rfl (wr.heap.size) YB.toArray (by rfl) (by rfl) 87 Z2 HK1.out.2 HYB.out.1 HYB.out.2.1 HYB.out.2.2 ?_
            refine hK.out _ _ (HS5.out _ HB2.out) (fun hHeld => ?_)
            clear hK K
            try simp only [Act.put, List.setIfInBounds_toArray, List.set_cons_zero, List.set_cons_succ]
            refine wpAnyH_done (by kernel_rfl) ?_ _
            clear hHeld
            go_wp2_with fail
            go_meet
            exact ⟨_, _, rfl, rfl, Lib.hid ⟨by omega, by omega, by omega, (setRow_other _ _ _ _ (by omega)).trans HK1.out.1, setRow_heap _ _ _ _ _ _ HK1.out.2, HB2.out⟩⟩
        case rest =>
          obtain ⟨s, t, rfl, rfl, HT⟩ := hcut
          generalize wc = W6 at *
          have HST := Lib.hid (And.intro HT.out.1 (And.intro HT.out.2.1 HT.out.2.2.1))
          go_upto_if 47 with fail
          go_cut [] from 17 to 81 (fun wx => Hid (wx.heap[s]? = some (.cells PX.toArray 87 (0, 0)) ∧ wx.heap[t]? = some (.cells PY.toArray 87 (0, 0)) ∧ Below wr.heap.size wr wx))
          case first =>
            by_cases od : p % 2 = 1
            · have e1 : (p : Int) % 2 = 1 := by omega
              obtain ⟨rfl, rfl⟩ := HPF.out.2.2.2.1 od
              go_wp2_with fail
              have HB7 := Lib.hid (below_drew HT.out.2.2.2.2.2)
              have hHeld := HS5.out _ HB7.out
              refine wp_region_held (S := fun u => u.rangeAt g 0 (nums .u8 x) ∧ u.rangeAt h 0 (nums .u8 y) ∧ (loadVar 28 ⟨w.heap.size, 2, none⟩).run Tryd.prog u = .ok (.slice (some ⟨b1, o1, none⟩) m c) u ∧ (loadVar 28 ⟨w.heap.size + 1, 2, none⟩).run Tryd.prog u = .ok (.slice (some ⟨b2, o2, none⟩) m c2) u ∧ u.rangeAt b1 (o1 + k * 32) (nums .u8 a) ∧ u.rangeAt b2 (o2 + k * 32) (nums .u8 b)) (by kernel_rfl) ?_
              change wpAnyH _ _ _ _ _ _ _ _ (World.drew _)
              refine wpAnyH_take (i := 0) (oi := ({ dst := some 48, op := Op.fieldAddr 46 (Operand.tmp 3) 2, type := 0, pos := "law.go:107", after := #[], guard := none } : Oper)) (v := .pointer (some ⟨w.heap.size, 2, none⟩)) rfl (by kernel_rfl) (by kernel_rfl) (by kernel_rfl) (fun _ _ _ h => h) (Or.inl ⟨by rfl, fun w hSw => by go_simp⟩) hHeld ?_
              simp only [Act.put, List.setIfInBounds_toArray, List.set_cons_zero, List.set_cons_succ]
              refine wpAnyH_take (i := 1) (oi := ({ dst := some 49, op := Op.load 28 (Operand.tmp 48), type := 28, pos := "law.go:107", after := #[{ on := 0, ground := Ground.data }], guard := none } : Oper)) (v := .slice (some ⟨b1, o1, none⟩) m c) rfl (by kernel_rfl) (by kernel_rfl) (by kernel_rfl) (fun _ _ _ h => h) (Or.inl ⟨by rfl, fun w hSw => by obtain ⟨z0, z1, z2, z3, z4, z5⟩ := hSw; go_simp⟩) hHeld ?_
              simp only [Act.put, List.setIfInBounds_toArray, List.set_cons_zero, List.set_cons_succ]
              refine wpAnyH_take (i := 2) (oi := ({ dst := some 50, op := Op.move (Operand.tmp 10), type := 3, pos := "law.go:107", after := #[], guard := none } : Oper)) (v := .int .i64 (k : Int)) rfl (by kernel_rfl) (by kernel_rfl) (by kernel_rfl) (fun _ _ _ h => h) (Or.inl ⟨by rfl, fun w hSw => by go_simp⟩) hHeld ?_
              simp only [Act.put, List.setIfInBounds_toArray, List.set_cons_zero, List.set_cons_succ]
              refine wpAnyH_take (i := 3) (oi := ({ dst := some 51, op := Op.indexAddr 28 (Operand.tmp 49) (Operand.tmp 50), type := 0, pos := "law.go:107", after := #[{ on := 1, ground := Ground.data }, { on := 2, ground := Ground.data }], guard := none } : Oper)) (v := .pointer (some ⟨b1, o1 + k * 32, none⟩)) rfl (by kernel_rfl) (by kernel_rfl) (by kernel_rfl) (fun _ _ _ h => h) (Or.inl ⟨by rfl, fun w hSw => by go_simp⟩) hHeld ?_
              simp only [Act.put, List.setIfInBounds_toArray, List.set_cons_zero, List.set_cons_succ]
              refine wpAnyH_take (i := 4) (oi := ({ dst := some 52, op := Op.load 24 (Operand.tmp 51), type := 24, pos := "law.go:107", after := #[{ on := 3, ground := Ground.data }], guard := none } : Oper)) (v := .agg (nums .u8 a).toArray) rfl (by kernel_rfl) (by kernel_rfl) (by kernel_rfl) (fun _ _ _ h => h) (yieldsIf_load_mid (by rfl) _ _ rfl b1 (o1 + k * 32) rfl (nums .u8 a) _ (fun _ h => h.2.2.2.2.1) hu24 rfl hia) hHeld ?_
              simp only [Act.put, List.setIfInBounds_toArray, List.set_cons_zero, List.set_cons_succ]
              refine wpAnyH_take (i := 5) (oi := ({ dst := some 53, op := Op.load 24 (Operand.tmp 7), type := 24, pos := "law.go:107", after := #[], guard := none } : Oper)) (v := .agg (nums .u8 x).toArray) rfl (by kernel_rfl) (by kernel_rfl) (by kernel_rfl) (fun _ _ _ h => h) (yieldsIf_load_mid (by rfl) _ _ rfl g 0 rfl (nums .u8 x) _ (fun _ h => h.1) hu24 rfl hix) hHeld ?_
              simp only [Act.put, List.setIfInBounds_toArray, List.set_cons_zero, List.set_cons_succ]
              refine wpAnyH_take (i := 6) (oi := ({ dst := some 54, op := Op.build 87 #[(0, Operand.tmp 52), (1, Operand.tmp 53)], type := 87, pos := "law.go:107", after := #[{ on := 4, ground := Ground.data }, { on := 5, ground := Ground.data }], guard := none } : Oper)) (v := .agg PX.toArray) rfl (by kernel_rfl) (by kernel_rfl) (by kernel_rfl) (fun _ _ _ h => h) (Or.inl ⟨by rfl, fun w hSw => by go_simp⟩) hHeld ?_
              simp only [Act.put, List.setIfInBounds_toArray, List.set_cons_zero, List.set_cons_succ]
              refine wpAnyH_take (i := 7) (oi := ({ dst := some 55, op := Op.fieldAddr 46 (Operand.tmp 4) 2, type := 0, pos := "law.go:107", after := #[{ on := 14, ground := Ground.gcOnly Departure.lateStores }], guard := none } : Oper)) (v := .pointer (some ⟨w.heap.size + 1, 2, none⟩)) rfl (by kernel_rfl) (by kernel_rfl) (by kernel_rfl) (fun _ _ _ h => h) (Or.inl ⟨by rfl, fun w hSw => by go_simp⟩) hHeld ?_
              simp only [Act.put, List.setIfInBounds_toArray, List.set_cons_zero, List.set_cons_succ]
              refine wpAnyH_take (i := 8) (oi := ({ dst := some 56, op := Op.load 28 (Operand.tmp 55), type := 28, pos := "law.go:107", after := #[{ on := 7, ground := Ground.data }, { on := 14, ground := Ground.gcOnly Departure.lateStores }], guard := none } : Oper)) (v := .slice (some ⟨b2, o2, none⟩) m c2) rfl (by kernel_rfl) (by kernel_rfl) (by kernel_rfl) (fun _ _ _ h => h) (Or.inl ⟨by rfl, fun w hSw => by obtain ⟨z0, z1, z2, z3, z4, z5⟩ := hSw; go_simp⟩) hHeld ?_
              simp only [Act.put, List.setIfInBounds_toArray, List.set_cons_zero, List.set_cons_succ]
              refine wpAnyH_take (i := 9) (oi := ({ dst := some 57, op := Op.move (Operand.tmp 10), type := 3, pos := "law.go:107", after := #[{ on := 14, ground := Ground.gcOnly Departure.lateStores }], guard := none } : Oper)) (v := .int .i64 (k : Int)) rfl (by kernel_rfl) (by kernel_rfl) (by kernel_rfl) (fun _ _ _ h => h) (Or.inl ⟨by rfl, fun w hSw => by go_simp⟩) hHeld ?_
              simp only [Act.put, List.setIfInBounds_toArray, List.set_cons_zero, List.set_cons_succ]
              refine wpAnyH_take (i := 10) (oi := ({ dst := some 58, op := Op.indexAddr 28 (Operand.tmp 56) (Operand.tmp 57), type := 0, pos := "law.go:107", after := #[{ on := 8, ground := Ground.data }, { on := 9, ground := Ground.data }, { on := 14, ground := Ground.gcOnly Departure.lateStores }], guard := none } : Oper)) (v := .pointer (some ⟨b2, o2 + k * 32, none⟩)) rfl (by kernel_rfl) (by kernel_rfl) (by kernel_rfl) (fun _ _ _ h => h) (Or.inl ⟨by rfl, fun w hSw => by go_simp⟩) hHeld ?_
              simp only [Act.put, List.setIfInBounds_toArray, List.set_cons_zero, List.set_cons_succ]
              refine wpAnyH_take (i := 11) (oi := ({ dst := some 59, op := Op.load 24 (Operand.tmp 58), type := 24, pos := "law.go:107", after := #[{ on := 10, ground := Ground.data }, { on := 14, ground := Ground.gcOnly Departure.lateStores }], guard := none } : Oper)) (v := .agg (nums .u8 b).toArray) rfl (by kernel_rfl) (by kernel_rfl) (by kernel_rfl) (fun _ _ _ h => h) (yieldsIf_load_mid (by rfl) _ _ rfl b2 (o2 + k * 32) rfl (nums .u8 b) _ (fun _ h => h.2.2.2.2.2) hu24 rfl hib) hHeld ?_
              simp only [Act.put, List.setIfInBounds_toArray, List.set_cons_zero, List.set_cons_succ]
              refine wpAnyH_take (i := 12) (oi := ({ dst := some 60, op := Op.load 24 (Operand.tmp 8), type := 24, pos := "law.go:107", after := #[{ on := 14, ground := Ground.gcOnly Departure.lateStores }], guard := none } : Oper)) (v := .agg (nums .u8 y).toArray) rfl (by kernel_rfl) (by kernel_rfl) (by kernel_rfl) (fun _ _ _ h => h) (yieldsIf_load_mid (by rfl) _ _ rfl h 0 rfl (nums .u8 y) _ (fun _ h => h.2.1) hu24 rfl hiy) hHeld ?_
              simp only [Act.put, List.setIfInBounds_toArray, List.set_cons_zero, List.set_cons_succ]
              refine wpAnyH_take (i := 13) (oi := ({ dst := some 61, op := Op.build 87 #[(0, Operand.tmp 59), (1, Operand.tmp 60)], type := 87, pos := "law.go:107", after := #[{ on := 11, ground := Ground.data }, { on := 12, ground := Ground.data }, { on := 14, ground := Ground.gcOnly Departure.lateStores }], guard := none } : Oper)) (v := .agg PY.toArray) rfl (by kernel_rfl) (by kernel_rfl) (by kernel_rfl) (fun _ _ _ h => h) (Or.inl ⟨by rfl, fun w hSw => by go_simp⟩) hHeld ?_
              simp only [Act.put, List.setIfInBounds_toArray, List.set_cons_zero, List.set_cons_succ]
              have HB8 := Lib.hid (below_setRow HB7.out (show wr.heap.size ≤ s from HST.out.2.1) PX.toArray)
              have HK8 := Lib.hid (And.intro (setRow_heap W6.drew s _ PX.toArray _ _ HT.out.2.2.2.1) ((setRow_other W6.drew s t PX.toArray (by have := HST.out; omega)).trans HT.out.2.2.2.2.1))
              clear hb1 hb2 hb3 hb4
              refine wpAnyH_ready (rs := [14]) (by kernel_rfl) (by simp) ?_
              refine AllReadyH.cons (o := ({ dst := none, op := Op.store 87 (Operand.tmp 11) (Operand.tmp 54), type := 0, pos := "law.go:107", after := #[{ on := 6, ground := Ground.data }, { on := 0, ground := Ground.phase }, { on := 1, ground := Ground.phase }, { on := 2, ground := Ground.phase }, { on := 3, ground := Ground.phase }, { on := 4, ground := Ground.phase }, { on := 5, ground := Ground.phase }, { on := 6, ground := Ground.phase }, { on := 7, ground := Ground.textOnly Departure.lateStores }, { on := 8, ground := Ground.textOnly Departure.lateStores }, { on := 9, ground := Ground.textOnly Departure.lateStores }, { on := 10, ground := Ground.textOnly Departure.lateStores }, { on := 11, ground := Ground.textOnly Departure.lateStores }, { on := 12, ground := Ground.textOnly Departure.lateStores }, { on := 13, ground := Ground.textOnly Departure.lateStores }], guard := none } : Oper)) rfl (fun K hK => ?_) AllReadyH.nil
              rw [if_pos (by rfl)]
              refine wp_store_row 87 (.tmp 11) (.tmp 54) rfl s PX.toArray (by rfl) (by rfl) 87 XA.toArray HT.out.2.2.2.1 HAX.out.1 (HXA.out.2.1.symm.trans HAX.out.2.1) HAX.out.2.2 ?_
              refine hK.out _ _ (HS5.out _ HB8.out) (fun hHeld => ?_)
              clear hK K
              try simp only [Act.put, List.setIfInBounds_toArray, List.set_cons_zero, List.set_cons_succ]
              have HB9 := Lib.hid (below_setRow HB8.out (show wr.heap.size ≤ t from HST.out.2.2) PY.toArray)
              refine wpAnyH_ready (rs := [15]) (by kernel_rfl) (by simp) ?_
              refine AllReadyH.cons (o := ({ dst := none, op := Op.store 87 (Operand.tmp 12) (Operand.tmp 61), type := 0, pos := "law.go:107", after := #[{ on := 13, ground := Ground.data }, { on := 14, ground := Ground.chain }, { on := 0, ground := Ground.phase }, { on := 1, ground := Ground.phase }, { on := 2, ground := Ground.phase }, { on := 3, ground := Ground.phase }, { on := 4, ground := Ground.phase }, { on := 5, ground := Ground.phase }, { on := 6, ground := Ground.phase }, { on := 7, ground := Ground.phase }, { on := 8, ground := Ground.phase }, { on := 9, ground := Ground.phase }, { on := 10, ground := Ground.phase }, { on := 11, ground := Ground.phase }, { on := 12, ground := Ground.phase }, { on := 13, ground := Ground.phase }, { on := 14, ground := Ground.phase }], guard := none } : Oper)) rfl (fun K hK => ?_) AllReadyH.nil
              rw [if_pos (by rfl)]
              refine wp_store_row 87 (.tmp 12) (.tmp 61) rfl t PY.toArray (by rfl) (by rfl) 87 YB.toArray HK8.out.2 HBY.out.1 (HYB.out.2.1.symm.trans HBY.out.2.1) HBY.out.2.2 ?_
              refine hK.out _ _ (HS5.out _ HB9.out) (fun hHeld => ?_)
              clear hK K
              try simp only [Act.put, List.setIfInBounds_toArray, List.set_cons_zero, List.set_cons_succ]
              refine wpAnyH_done (by kernel_rfl) ?_ _
              clear hHeld
              go_wp2_with fail
              go_meet
              exact Lib.hid ⟨(setRow_other _ _ _ _ (by have := HST.out; omega)).trans HK8.out.1, setRow_heap _ _ _ _ _ _ HK8.out.2, HB9.out⟩
            · have e1 : ¬ (p : Int) % 2 = 1 := by omega
              obtain ⟨rfl, rfl⟩ := HPF.out.2.2.2.2 od
              go_wp2_with fail
              go_meet
              exact Lib.hid ⟨HT.out.2.2.2.1, HT.out.2.2.2.2.1, HT.out.2.2.2.2.2⟩
          case rest =>
            have HP := Lib.hid hcut.out
            clear hcut HT hb1 hb2 hb3 hb4 hix hiy hia hib
            generalize wc = W8 at *
            have hiU := (HF.out U HPF.out.2.1.1).1
            have hiV := (HF.out V HPF.out.2.1.2.1).1
            have hiU2 := (HF.out U2 HPF.out.2.1.2.2.1).1
            have hiV2 := (HF.out V2 HPF.out.2.1.2.2.2).1
            have HP1 := Lib.hid (fun u => rpair_calls U V u HPF.out.2.1.1 HPF.out.2.1.2.1 HPF.out.2.2.1.1 HPF.out.2.2.1.2.1)
            have HP2 := Lib.hid (fun u => rpair_calls U2 V2 u HPF.out.2.1.2.2.1 HPF.out.2.1.2.2.2 HPF.out.2.2.1.2.2.1 HPF.out.2.2.1.2.2.2)
            have q1 := fun u => eqR (twiceP (U ++ V)) (twiceP (U2 ++ V2)) (twiceP_len _) (twiceP_len _) u
            have q2 := fun u => eq87 U V U2 V2 HPF.out.2.1.1 HPF.out.2.1.2.1 HPF.out.2.1.2.2.1 HPF.out.2.1.2.2.2 u
            rw [HPF.out.1.1, HPF.out.1.2] at q2
            have HTT := Lib.hid (And.intro (And.intro (twiceP_len (U ++ V)) (twiceP_bytes (U ++ V))) (And.intro (twiceP_len (U2 ++ V2)) (twiceP_bytes (U2 ++ V2))))
            have hS8 := fun (u : World) (h1 : u.heap[s]? = some (.cells PX.toArray 87 (0, 0))) (h2 : u.heap[t]? = some (.cells PY.toArray 87 (0, 0))) => (show u.rangeAt s 0 (nums .u8 U) ∧ u.rangeAt s 32 (nums .u8 V) ∧ u.rangeAt t 0 (nums .u8 U2) ∧ u.rangeAt t 32 (nums .u8 V2) from by
              rw [← HPF.out.1.1] at h1
              rw [← HPF.out.1.2] at h2
              exact ⟨range_fst h1, range_snd (by rw [nums_len]; exact HPF.out.2.1.1) h1, range_fst h2, range_snd (by rw [nums_len]; exact HPF.out.2.1.2.2.1) h2⟩)
            have HS8 := Lib.hid hS8
            clear hS8
            obtain ⟨T1, hT1⟩ : ∃ q, twiceP (U ++ V) = q := ⟨_, rfl⟩
            obtain ⟨T2, hT2⟩ : ∃ q, twiceP (U2 ++ V2) = q := ⟨_, rfl⟩
            have HQ2 := Lib.hid HQ.out
            rw [hT1] at HP1 q1 HTT HQ2
            rw [hT2] at HP2 q1 HTT HQ2
            clear hT1 hT2
            have HI1 := Lib.hid (HF.out T1 HTT.out.1.1)
            have HI2 := Lib.hid (HF.out T2 HTT.out.2.1)
            obtain ⟨e, he⟩ : ∃ q, (T1 == T2) = q := ⟨_, rfl⟩
            obtain ⟨r, hr⟩ : ∃ q, ([U, V] == [U2, V2]) = q := ⟨_, rfl⟩
            rw [he, hr] at HQ2
            rw [he] at q1
            rw [hr] at q2
            clear he hr
            have HSZ := Lib.hid (show (nums .u8 x).toArray.size = (nums .u8 T1).toArray.size ∧ (nums .u8 y).toArray.size = (nums .u8 T2).toArray.size from by
              rw [(HF.out x HXY.out.1).2.2.1, (HF.out y HXY.out.2).2.2.1, HI1.out.2.2.1, HI2.out.2.2.1]
              exact ⟨rfl, rfl⟩)
            have hph := half_p2 (a := p) (Nat.le_trans HNUM.out.2 (by decide))
            have HH := Lib.hid (half_p (a := p) (Nat.le_trans HNUM.out.2 (by decide)))
            have HPp := Lib.hid (show p / 2 ≤ 65536 from Nat.le_trans (Nat.div_le_self _ _) HNUM.out.2)
            go_wp2_with fail
            have hHeld := HS8.out W8.drew HP.out.1 HP.out.2.1
            refine wp_region_held (S := fun u => u.rangeAt s 0 (nums .u8 U) ∧ u.rangeAt s 32 (nums .u8 V) ∧ u.rangeAt t 0 (nums .u8 U2) ∧ u.rangeAt t 32 (nums .u8 V2)) (by kernel_rfl) ?_
            change wpAnyH _ _ _ _ _ _ _ _ (World.drew _)
            refine wpAnyH_take (i := 0) (oi := ({ dst := some 62, op := Op.indexAddr 87 (Operand.tmp 11) (Operand.const (Value.int IntKind.i64 0)), type := 0, pos := "law.go:109", after := #[], guard := none } : Oper)) (v := .pointer (some ⟨s, 0, none⟩)) rfl (by kernel_rfl) (by kernel_rfl) (by kernel_rfl) (fun _ _ _ h => h) (Or.inl ⟨by rfl, fun w hSw => by go_simp⟩) hHeld ?_
            simp only [Act.put, List.setIfInBounds_toArray, List.set_cons_zero, List.set_cons_succ]
            refine wpAnyH_take (i := 1) (oi := ({ dst := some 63, op := Op.load 24 (Operand.tmp 62), type := 24, pos := "law.go:109", after := #[{ on := 0, ground := Ground.data }], guard := none } : Oper)) (v := .agg (nums .u8 U).toArray) rfl (by kernel_rfl) (by kernel_rfl) (by kernel_rfl) (fun _ _ _ h => h) (yieldsIf_load_mid (by rfl) _ _ rfl s 0 rfl (nums .u8 U) _ (fun _ h => h.1) hu24 rfl hiU) hHeld ?_
            simp only [Act.put, List.setIfInBounds_toArray, List.set_cons_zero, List.set_cons_succ]
            refine wpAnyH_take (i := 2) (oi := ({ dst := some 64, op := Op.indexAddr 87 (Operand.tmp 11) (Operand.const (Value.int IntKind.i64 1)), type := 0, pos := "law.go:109", after := #[], guard := none } : Oper)) (v := .pointer (some ⟨s, 32, none⟩)) rfl (by kernel_rfl) (by kernel_rfl) (by kernel_rfl) (fun _ _ _ h => h) (Or.inl ⟨by rfl, fun w hSw => by go_simp⟩) hHeld ?_
            simp only [Act.put, List.setIfInBounds_toArray, List.set_cons_zero, List.set_cons_succ]
            refine wpAnyH_take (i := 3) (oi := ({ dst := some 65, op := Op.load 24 (Operand.tmp 64), type := 24, pos := "law.go:109", after := #[{ on := 2, ground := Ground.data }], guard := none } : Oper)) (v := .agg (nums .u8 V).toArray) rfl (by kernel_rfl) (by kernel_rfl) (by kernel_rfl) (fun _ _ _ h => h) (yieldsIf_load_mid (by rfl) _ _ rfl s 32 rfl (nums .u8 V) _ (fun _ h => h.2.1) hu24 rfl hiV) hHeld ?_
            simp only [Act.put, List.setIfInBounds_toArray, List.set_cons_zero, List.set_cons_succ]
            refine wpAnyH_take (i := 5) (oi := ({ dst := some 67, op := Op.indexAddr 87 (Operand.tmp 12) (Operand.const (Value.int IntKind.i64 0)), type := 0, pos := "law.go:109", after := #[], guard := none } : Oper)) (v := .pointer (some ⟨t, 0, none⟩)) rfl (by kernel_rfl) (by kernel_rfl) (by kernel_rfl) (fun _ _ _ h => h) (Or.inl ⟨by rfl, fun w hSw => by go_simp⟩) hHeld ?_
            simp only [Act.put, List.setIfInBounds_toArray, List.set_cons_zero, List.set_cons_succ]
            refine wpAnyH_take (i := 6) (oi := ({ dst := some 68, op := Op.load 24 (Operand.tmp 67), type := 24, pos := "law.go:109", after := #[{ on := 5, ground := Ground.data }], guard := none } : Oper)) (v := .agg (nums .u8 U2).toArray) rfl (by kernel_rfl) (by kernel_rfl) (by kernel_rfl) (fun _ _ _ h => h) (yieldsIf_load_mid (by rfl) _ _ rfl t 0 rfl (nums .u8 U2) _ (fun _ h => h.2.2.1) hu24 rfl hiU2) hHeld ?_
            simp only [Act.put, List.setIfInBounds_toArray, List.set_cons_zero, List.set_cons_succ]
            refine wpAnyH_take (i := 7) (oi := ({ dst := some 69, op := Op.indexAddr 87 (Operand.tmp 12) (Operand.const (Value.int IntKind.i64 1)), type := 0, pos := "law.go:109", after := #[], guard := none } : Oper)) (v := .pointer (some ⟨t, 32, none⟩)) rfl (by kernel_rfl) (by kernel_rfl) (by kernel_rfl) (fun _ _ _ h => h) (Or.inl ⟨by rfl, fun w hSw => by go_simp⟩) hHeld ?_
            simp only [Act.put, List.setIfInBounds_toArray, List.set_cons_zero, List.set_cons_succ]
            refine wpAnyH_take (i := 8) (oi := ({ dst := some 70, op := Op.load 24 (Operand.tmp 69), type := 24, pos := "law.go:109", after := #[{ on := 7, ground := Ground.data }], guard := none } : Oper)) (v := .agg (nums .u8 V2).toArray) rfl (by kernel_rfl) (by kernel_rfl) (by kernel_rfl) (fun _ _ _ h => h) (yieldsIf_load_mid (by rfl) _ _ rfl t 32 rfl (nums .u8 V2) _ (fun _ h => h.2.2.2) hu24 rfl hiV2) hHeld ?_
            simp only [Act.put, List.setIfInBounds_toArray, List.set_cons_zero, List.set_cons_succ]
            refine wpAnyH_take (i := 10) (oi := ({ dst := some 72, op := Op.move (Operand.tmp 9), type := 3, pos := "law.go:109", after := #[{ on := 13, ground := Ground.gcOnly Departure.lateStores }], guard := none } : Oper)) (v := .int .i64 (p : Int)) rfl (by kernel_rfl) (by kernel_rfl) (by kernel_rfl) (fun _ _ _ h => h) (Or.inl ⟨by rfl, fun w hSw => by go_simp⟩) hHeld ?_
            simp only [Act.put, List.setIfInBounds_toArray, List.set_cons_zero, List.set_cons_succ]
            refine wpAnyH_take (i := 11) (oi := ({ dst := some 73, op := Op.binOp BinOp.quo 3 (Operand.tmp 72) (Operand.const (Value.int IntKind.i64 2)) 3, type := 3, pos := "law.go:109", after := #[{ on := 10, ground := Ground.data }, { on := 13, ground := Ground.gcOnly Departure.lateStores }], guard := none } : Oper)) (v := .int .i64 ((p : Int) / 2)) rfl (by kernel_rfl) (by kernel_rfl) (by kernel_rfl) (fun _ _ _ h => h) (Or.inl ⟨by rfl, fun w hSw => by go_simp⟩) hHeld ?_
            simp only [Act.put, List.setIfInBounds_toArray, List.set_cons_zero, List.set_cons_succ]
            have HPb := Lib.hid (show ∀ u : World, Below W8.heap.size W8 u → (u.heap[s]? = some (.cells PX.toArray 87 (0, 0)) ∧ u.heap[t]? = some (.cells PY.toArray 87 (0, 0))) ∧ (u.heap[g]? = some (.cells (nums .u8 x).toArray 24 (0, 0)) ∧ u.heap[h]? = some (.cells (nums .u8 y).toArray 24 (0, 0))) ∧ Below wr.heap.size wr u from fun u hu => by
              have hB := HP.out.2.2.trans (Below.mono hu HP.out.2.2.size)
              exact ⟨⟨(hu.block _ (blk_lt HP.out.1)).trans HP.out.1, (hu.block _ (blk_lt HP.out.2.1)).trans HP.out.2.1⟩, ⟨(hB.block _ HGH.out.2.2.1).trans HGH.out.1, (hB.block _ HGH.out.2.2.2).trans HGH.out.2.1⟩, hB⟩)
            have HBD8 := Lib.hid (below_drew (Below.refl W8.heap.size W8))
            refine wpAnyH_ready (rs := [4]) (by kernel_rfl) (by simp) ?_
            refine AllReadyH.cons (o := ({ dst := some 66, op := Op.call { callee := Callee.value (Operand.func 24), args := #[Operand.tmp 63, Operand.tmp 65], argTypes := #[24, 24] }, type := 24, pos := "law.go:109", after := #[{ on := 1, ground := Ground.data }, { on := 3, ground := Ground.data }], guard := none } : Oper)) rfl (fun K hK => ?_) AllReadyH.nil
            go_simp
            (with_reducible refine (HP1.out _).mono ?_)
            rintro e w9 ⟨rfl, hb9⟩
            have HB9 := Lib.hid (HBD8.out.trans hb9)
            clear hb9
            go_wp2_with fail
            refine hK.out _ _ ((HS8.out _ (HPb.out _ HB9.out).1.1 (HPb.out _ HB9.out).1.2)) (fun hHeld => ?_)
            clear hK K
            try simp only [Act.put, List.setIfInBounds_toArray, List.set_cons_zero, List.set_cons_succ]
            refine wpAnyH_ready (rs := [9]) (by kernel_rfl) (by simp) ?_
            refine AllReadyH.cons (o := ({ dst := some 71, op := Op.call { callee := Callee.value (Operand.func 24), args := #[Operand.tmp 68, Operand.tmp 70], argTypes := #[24, 24] }, type := 24, pos := "law.go:109", after := #[{ on := 6, ground := Ground.data }, { on := 8, ground := Ground.data }, { on := 4, ground := Ground.chain }], guard := none } : Oper)) rfl (fun K hK => ?_) AllReadyH.nil
            go_simp
            (with_reducible refine (HP2.out _).mono ?_)
            rintro e wa ⟨rfl, hba⟩
            have HBA := Lib.hid (HB9.out.trans (Below.mono hba HB9.out.size))
            clear hba
            go_wp2_with fail
            refine hK.out _ _ ((HS8.out _ (HPb.out _ HBA.out).1.1 (HPb.out _ HBA.out).1.2)) (fun hHeld => ?_)
            clear hK K
            try simp only [Act.put, List.setIfInBounds_toArray, List.set_cons_zero, List.set_cons_succ]
            have HKA := Lib.hid (HPb.out _ HBA.out)
            have HNE := Lib.hid (show g ≠ s ∧ g ≠ t ∧ h ≠ s ∧ h ≠ t from by have h1 := HGH.out.2.2; have h2 := HST.out; omega)
            have HKB := Lib.hid (show ((wa.setRow g (nums .u8 T1).toArray).heap[s]? = some (.cells PX.toArray 87 (0, 0)) ∧ (wa.setRow g (nums .u8 T1).toArray).heap[t]? = some (.cells PY.toArray 87 (0, 0))) ∧ (wa.setRow g (nums .u8 T1).toArray).heap[g]? = some (.cells (nums .u8 T1).toArray 24 (0, 0)) ∧ (wa.setRow g (nums .u8 T1).toArray).heap[h]? = some (.cells (nums .u8 y).toArray 24 (0, 0)) from ⟨⟨(setRow_other _ _ _ _ (Ne.symm HNE.out.1)).trans HKA.out.1.1, (setRow_other _ _ _ _ (Ne.symm HNE.out.2.1)).trans HKA.out.1.2⟩, setRow_heap _ _ _ _ _ _ HKA.out.2.1.1, (setRow_other _ _ _ _ (Ne.symm HGN.out.1)).trans HKA.out.2.1.2⟩)
            refine wpAnyH_ready (rs := [12]) (by kernel_rfl) (by simp) ?_
            refine AllReadyH.cons (o := ({ dst := none, op := Op.store 24 (Operand.tmp 7) (Operand.tmp 66), type := 0, pos := "law.go:109", after := #[{ on := 4, ground := Ground.data }, { on := 9, ground := Ground.chain }, { on := 0, ground := Ground.phase }, { on := 1, ground := Ground.phase }, { on := 2, ground := Ground.phase }, { on := 3, ground := Ground.phase }, { on := 4, ground := Ground.phase }, { on := 5, ground := Ground.textOnly Departure.lateStores }, { on := 6, ground := Ground.textOnly Departure.lateStores }, { on := 7, ground := Ground.textOnly Departure.lateStores }, { on := 8, ground := Ground.textOnly Departure.lateStores }, { on := 9, ground := Ground.textOnly Departure.lateStoresUnsure }, { on := 10, ground := Ground.textOnly Departure.lateStores }, { on := 11, ground := Ground.textOnly Departure.lateStores }], guard := none } : Oper)) rfl (fun K hK => ?_) AllReadyH.nil
            rw [if_pos (by rfl)]
            refine wp_store_row 24 (.tmp 7) (.tmp 66) rfl g (nums .u8 T1).toArray (by rfl) (by rfl) 24 (nums .u8 x).toArray HKA.out.2.1.1 HI1.out.2.1 HSZ.out.1 HI1.out.2.2.2 ?_
            refine hK.out _ _ ((HS8.out _ HKB.out.1.1 HKB.out.1.2)) (fun hHeld => ?_)
            clear hK K
            try simp only [Act.put, List.setIfInBounds_toArray, List.set_cons_zero, List.set_cons_succ]
            obtain ⟨WB, hWB⟩ : ∃ W, wa.setRow g (nums .u8 T1).toArray = W := ⟨_, rfl⟩
            have HBB := Lib.hid (show Below W0.heap.size W0 WB from by rw [← hWB]; exact below_setRow (HB5.out _ HKA.out.2.2) HGN.out.2.1 _)
            rw [hWB] at HKB ⊢
            clear hWB
            have HKC := Lib.hid (show ((WB.setRow h (nums .u8 T2).toArray).heap[s]? = some (.cells PX.toArray 87 (0, 0)) ∧ (WB.setRow h (nums .u8 T2).toArray).heap[t]? = some (.cells PY.toArray 87 (0, 0))) ∧ (WB.setRow h (nums .u8 T2).toArray).heap[g]? = some (.cells (nums .u8 T1).toArray 24 (0, 0)) ∧ (WB.setRow h (nums .u8 T2).toArray).heap[h]? = some (.cells (nums .u8 T2).toArray 24 (0, 0)) from ⟨⟨(setRow_other _ _ _ _ (Ne.symm HNE.out.2.2.1)).trans HKB.out.1.1, (setRow_other _ _ _ _ (Ne.symm HNE.out.2.2.2)).trans HKB.out.1.2⟩, (setRow_other _ _ _ _ HGN.out.1).trans HKB.out.2.1, setRow_heap _ _ _ _ _ _ HKB.out.2.2⟩)
            refine wpAnyH_ready (rs := [13]) (by kernel_rfl) (by simp) ?_
            refine AllReadyH.cons (o := ({ dst := none, op := Op.store 24 (Operand.tmp 8) (Operand.tmp 71), type := 0, pos := "law.go:109", after := #[{ on := 9, ground := Ground.data }, { on := 12, ground := Ground.chain }, { on := 0, ground := Ground.phase }, { on := 1, ground := Ground.phase }, { on := 2, ground := Ground.phase }, { on := 3, ground := Ground.phase }, { on := 4, ground := Ground.phase }, { on := 5, ground := Ground.phase }, { on := 6, ground := Ground.phase }, { on := 7, ground := Ground.phase }, { on := 8, ground := Ground.phase }, { on := 9, ground := Ground.phase }, { on := 10, ground := Ground.textOnly Departure.lateStores }, { on := 11, ground := Ground.textOnly Departure.lateStores }, { on := 12, ground := Ground.phase }], guard := none } : Oper)) rfl (fun K hK => ?_) AllReadyH.nil
            rw [if_pos (by rfl)]
            refine wp_store_row 24 (.tmp 8) (.tmp 71) rfl h (nums .u8 T2).toArray (by rfl) (by rfl) 24 (nums .u8 y).toArray HKB.out.2.2 HI2.out.2.1 HSZ.out.2 HI2.out.2.2.2 ?_
            refine hK.out _ _ ((HS8.out _ HKC.out.1.1 HKC.out.1.2)) (fun hHeld => ?_)
            clear hK K
            try simp only [Act.put, List.setIfInBounds_toArray, List.set_cons_zero, List.set_cons_succ]
            refine wpAnyH_take (i := 14) (oi := ({ dst := some 9, op := Op.assign (Operand.tmp 73), type := 3, pos := "law.go:109", after := #[{ on := 11, ground := Ground.data }, { on := 13, ground := Ground.chain }, { on := 0, ground := Ground.phase }, { on := 1, ground := Ground.phase }, { on := 2, ground := Ground.phase }, { on := 3, ground := Ground.phase }, { on := 4, ground := Ground.phase }, { on := 5, ground := Ground.phase }, { on := 6, ground := Ground.phase }, { on := 7, ground := Ground.phase }, { on := 8, ground := Ground.phase }, { on := 9, ground := Ground.phase }, { on := 10, ground := Ground.phase }, { on := 11, ground := Ground.phase }, { on := 12, ground := Ground.phase }, { on := 13, ground := Ground.phase }], guard := none } : Oper)) (v := .int .i64 ((p : Int) / 2)) rfl (by kernel_rfl) (by kernel_rfl) (by kernel_rfl) (fun _ _ _ h => h) (Or.inl ⟨by rfl, fun w hSw => by go_simp⟩) hHeld ?_
            simp only [Act.put, List.setIfInBounds_toArray, List.set_cons_zero, List.set_cons_succ]
            refine wpAnyH_done (by kernel_rfl) ?_ _
            clear hHeld hph hiU hiV hiU2 hiV2
            obtain ⟨WC, hWC⟩ : ∃ W, WB.setRow h (nums .u8 T2).toArray = W := ⟨_, rfl⟩
            have HBC := Lib.hid (show Below W0.heap.size W0 WC from by rw [← hWC]; exact below_setRow HBB.out HGN.out.2.2 _)
            rw [hWC] at HKC ⊢
            clear hWC
            have HJX := Lib.hid (show (Tryd.prog.info? 87).map (·.size) = some PX.toArray.size ∧ (Tryd.prog.info? 87).map (·.size) = some PY.toArray.size from ⟨(H87.out U V HPF.out.2.1.1 HPF.out.2.1.2.1 PX HPF.out.1.1).1, (H87.out U2 V2 HPF.out.2.1.2.2.1 HPF.out.2.1.2.2.2 PY HPF.out.1.2).1⟩)
            have hl11 := run_loadVar_row (P := Tryd.prog) WC s 87 87 _ (0, 0) _ HKC.out.1.1 u87 rfl HJX.out.1
            have hl12 := run_loadVar_row (P := Tryd.prog) WC t 87 87 _ (0, 0) _ HKC.out.1.2 u87 rfl HJX.out.2
            cases e with
            | false =>
              have HQ3 := Lib.hid (show meetsF (us.drop (k + 1)) (vs.drop (k + 1)) (p / 2) T1 T2 = R from by have h := HQ2.out; simpa using h)
              go_wp2_with (first
                | ((with_reducible show wpList _ _ _ (Oper.mk _ (Op.load _ (.tmp 7)) _ _ _ _ :: _) _ _); (go_loud (refine wpList_load_row rfl 24 (.tmp 7) rfl g rfl 24 (nums .u8 T1).toArray (0, 0) _ HKC.out.2.1 hu24 rfl HI1.out.2.1 ?_)))
                | ((with_reducible show wpList _ _ _ (Oper.mk _ (Op.load _ (.tmp 8)) _ _ _ _ :: _) _ _); (go_loud (refine wpList_load_row rfl 24 (.tmp 8) rfl h rfl 24 (nums .u8 T2).toArray (0, 0) _ HKC.out.2.2 hu24 rfl HI2.out.2.1 ?_))))
              clear q1 q2 hl11 hl12
              have hwk : wrap64 ((k : Int) + 1) = ((k + 1 : Nat) : Int) := wrap64_succ (Nat.lt_of_lt_of_le HNUM.out.1 (Nat.le_trans hm20 (by decide)))
              try rw [hwk]
              go_roundw
              case rel => exact ⟨k + 1, p / 2, T1, T2, by first | rfl | (congr 1 <;> omega), rfl, Lib.hid ⟨⟨HNUM.out.1, HPp.out⟩, HTT.out, ⟨HKC.out.2.1, HKC.out.2.2⟩, HBC.out, HQ3.out⟩⟩
              case measure => exact count_n HNUM.out.1
            | true =>
              cases r with
              | true =>
                have HQ3 := Lib.hid (show meetsF (us.drop (k + 1)) (vs.drop (k + 1)) (p / 2) T1 T2 = R from by have h := HQ2.out; simpa using h)
                go_wp2_with (first
                  | ((with_reducible show wpList _ _ _ (Oper.mk _ (Op.load _ (.tmp 7)) _ _ _ _ :: _) _ _); (go_loud (refine wpList_load_row rfl 24 (.tmp 7) rfl g rfl 24 (nums .u8 T1).toArray (0, 0) _ HKC.out.2.1 hu24 rfl HI1.out.2.1 ?_)))
                  | ((with_reducible show wpList _ _ _ (Oper.mk _ (Op.load _ (.tmp 8)) _ _ _ _ :: _) _ _); (go_loud (refine wpList_load_row rfl 24 (.tmp 8) rfl h rfl 24 (nums .u8 T2).toArray (0, 0) _ HKC.out.2.2 hu24 rfl HI2.out.2.1 ?_))))
                clear q1 q2 hl11 hl12
                have hwk : wrap64 ((k : Int) + 1) = ((k + 1 : Nat) : Int) := wrap64_succ (Nat.lt_of_lt_of_le HNUM.out.1 (Nat.le_trans hm20 (by decide)))
                try rw [hwk]
                go_roundw
                case rel => exact ⟨k + 1, p / 2, T1, T2, by first | rfl | (congr 1 <;> omega), rfl, Lib.hid ⟨⟨HNUM.out.1, HPp.out⟩, HTT.out, ⟨HKC.out.2.1, HKC.out.2.2⟩, HBC.out, HQ3.out⟩⟩
                case measure => exact count_n HNUM.out.1
              | false =>
                have hR : R = true := by have h := HQ2.out; simpa using h.symm
                subst hR
                go_wp2_with (first
                  | ((with_reducible show wpList _ _ _ (Oper.mk _ (Op.load _ (.tmp 7)) _ _ _ _ :: _) _ _); (go_loud (refine wpList_load_row rfl 24 (.tmp 7) rfl g rfl 24 (nums .u8 T1).toArray (0, 0) _ HKC.out.2.1 hu24 rfl HI1.out.2.1 ?_)))
                  | ((with_reducible show wpList _ _ _ (Oper.mk _ (Op.load _ (.tmp 8)) _ _ _ _ :: _) _ _); (go_loud (refine wpList_load_row rfl 24 (.tmp 8) rfl h rfl 24 (nums .u8 T2).toArray (0, 0) _ HKC.out.2.2 hu24 rfl HI2.out.2.1 ?_))))
                go_ret
                exact ⟨rfl, (HAA.out _ HBC.out).2.2⟩
      · have gk : ¬ (k : Int) < (m : Int) := by omega
        have hR : R = false := by rw [← H.out.2.2.2.2]; exact meetsF_nil (by rw [← HUV.out.1]; omega) _ _ _
        subst hR
        clear H
        go_wp2_with fail
        go_ret
        exact ⟨rfl, (HAA.out _ HWR.out).2.2⟩
end Go.Proofs.YtlmcdkjobdcflaaDoor.Hand


/- A list, a place, a level and a hash as a parameter. -/
namespace Go.Proofs.YtlmcdkjobdcflaaDoor.Hand
open Go Go.RowKit Go.Proofs.YtlmcdkjobdcflaaDoor.Plain Go.Proofs.YtlmcdkjobdcflaaDoor.PAll Go.Proofs.YtlmcdkjobdcflaaDoorW.PrintWords Go.Proofs.YtlmcdkjobdcflaaDoorW.PrintLast Go.Proofs.YtlmcdkjobdcflaaDoorW.PrintMore
set_option linter.unusedVariables false
/-- What an opened one says. -/
theorem bend_open {w : World} {x : List (List Int) × Int × Int × List Int} {cs : Array Value}
    (K : (Kd.pair (Kd.slice 25 kH) (Kd.pair (Kd.int .i64) (Kd.pair (Kd.int .i64) kH))).K w x cs.toList)
    (h0 : ∀ y ∈ x.1, ∀ z ∈ y, (Lit.int .u8 z).wf = true) (h3 : ∀ z ∈ x.2.2.2, (Lit.int .u8 z).wf = true) :
    ∃ A n c xs I AT h ZC, (Value.agg cs) = .agg (List.toArray ZC) ∧ [Value.slice A n c, .int .i64 I, .int .i64 AT] ++ nums .u8 h = ZC ∧ n = List.length xs ∧ Kd.C kH w A n xs ∧ n ≤ c ∧ Hs xs ∧ (h.length = 32 ∧ ∀ z ∈ h, 0 ≤ z ∧ z < 256) := by
  obtain ⟨xs, I, AT, h⟩ := x
  obtain ⟨c0, c1, e0, k0, d1, d2, e1, k1, d3, d4, e2, k2, k3⟩ := K
  obtain ⟨A, c, rfl, hc, hC⟩ := k0
  obtain rfl : d1 = [.int .i64 I] := k1
  obtain rfl : d3 = [.int .i64 AT] := k2
  obtain ⟨h32, rfl⟩ := kH_K k3
  subst e2 e1
  refine ⟨A, xs.length, c, xs, I, AT, h, _, ?_, rfl, rfl, hC, hc, Hs_of hC h0, h32, Plain.wf_u8s h3⟩
  congr 1
  apply Array.toList_inj.1
  rw [e0]
  rfl
end Go.Proofs.YtlmcdkjobdcflaaDoor.Hand


/- The law BranchBent: walked. -/
namespace Go.Proofs.YtlmcdkjobdcflaaDoor.Hand
open Go Go.RowKit Go.Proofs.YtlmcdkjobdcflaaDoor.Plain Go.Proofs.YtlmcdkjobdcflaaDoor.PAll Go.Proofs.YtlmcdkjobdcflaaDoorW.PrintWords Go.Proofs.YtlmcdkjobdcflaaDoorW.PrintLast Go.Proofs.YtlmcdkjobdcflaaDoorW.PrintMore
set_option linter.unusedVariables false
set_option linter.unusedSimpArgs false
set_option maxRecDepth 100000
attribute [local go_sem ↓] Go.wp_at_zero Go.wp_at_succ
attribute [-go_sem] loadVar storeVar Instr.buildSlice
theorem kH_put (w : World) (base : Nat) (okp : Nat → Prop) {c H : List Value} {hh : List Int} (hc : c.length = 32) (h32 : hh.length = 32) (he : nums .u8 hh = H) : kH.M w base okp hh (c.take 0 ++ H ++ c.drop (0 + H.length)) := by
  rw [← he, List.take_zero, List.nil_append, nums_len, h32, List.drop_of_length_le (by omega), List.append_nil]
  exact kH_M h32
theorem R_form9 {w : World} {base n : Nat} {v : Value} {xs : List (List Int)} (h : Kd.R kH 25 w base (fun _ => True) v xs) (hn : xs.length = n) (h0 : 0 < n) : ∃ g cap, v = .slice (some ⟨g, 0, none⟩) n cap := by
  obtain ⟨_, inner, hown, hr⟩ := h
  rcases hown.2 with ⟨_, hx0⟩ | ⟨g, cap, cur, hv, _⟩
  · omega
  · exact ⟨g, cap, by rw [hv, hn]⟩
theorem R_cells9 {w : World} {base g n cap j : Nat} {xs : List (List Int)} (h : Kd.R kH 25 w base (fun _ => True) (.slice (some ⟨g, 0, none⟩) n cap) xs) (hj : j < xs.length) : (nums .u8 (rdH xs j)).length = 32 ∧ ∀ (t : Nat) (u : Value), (nums .u8 (rdH xs j))[t]? = some u → w.cell? ⟨g, (j : Int).toNat * 32 + t, none⟩ = some u := by
  have hC := (Kd.R_reads' h).2.2
  obtain ⟨b, o, e, _, hrg⟩ := C_hash hC (by omega)
  injection e with e
  injection e with e4 e5
  subst e4 e5
  obtain ⟨h1, h2⟩ := hrg j hj
  refine ⟨by rw [nums_len]; exact h2, fun t u hu => ?_⟩
  have := h1 t u hu
  rw [Nat.zero_add] at this
  simpa using this
theorem set_Hs9 {xs : List (List Int)} (h : Hs xs) {j : Nat} {q : List Int} (hq : q.length = 32 ∧ ∀ x ∈ q, 0 ≤ x ∧ x < 256) : Hs (xs.set j q) := by
  intro p hp
  rcases List.mem_or_eq_of_mem_set hp with h1 | rfl
  · exact h p h1
  · exact hq
theorem ne_ty9 : ∀ q, q ∈ 25 :: kH.E → q ≠ 41 := by decide
theorem built_b9 (n i : Int) (A : Option Addr) (m c : Nat) : Tryd.prog.built 41 [(0, .int .i64 n), (1, .int .i64 i), (2, .slice A m c)] = some #[.int .i64 n, .int .i64 i, .slice A m c] := by kernel_rfl
theorem set_ne9 {xs : List (List Int)} {j : Nat} {q : List Int} (hj : j < xs.length) (hne : rdH xs j ≠ q) : xs.set j q ≠ xs := by
  intro e
  apply hne
  rw [← e, rdH_eq (by rw [List.length_set]; exact hj), List.getElem_set_self]
set_option maxHeartbeats 8000000 in
theorem bent9_calls (A : Option Addr) (n c : Nat) (xs : List (List Int)) (I AT : Int) (h : List Int) (ZC : List Value) (w : World) (hZ : [.slice A n c, .int .i64 I, .int .i64 AT] ++ nums .u8 h = ZC) (hn : n = xs.length) (hr : Kd.C kH w A n xs) (hc : n ≤ c) (hH : Hs xs) (hh : h.length = 32 ∧ ∀ x ∈ h, 0 ≤ x ∧ x < 256) (hK : KT w) :
    Calls Tryd.prog 11 #[.agg ZC.toArray] w fun e w' => e = .returned (.bool true) ∧ Below w.heap.size w w' := by
  have hm := Kd.C_max hr
  have HAW := Lib.hid (fun (u : World) (hu : Below w.heap.size w u) => awake9_calls u (hK.below hu (Nat.le_refl _)))
  have hhl : (nums .u8 h).length = 32 := by rw [nums_len]; exact hh.1
  have hH1 := nums_one .u8 h
  obtain ⟨HC, hHC⟩ : ∃ X, nums .u8 h = X := ⟨_, rfl⟩
  rw [hHC] at hZ hhl hH1
  have hbox := heap_alloc_new w (.cells ZC.toArray 59)
  have HB0 := Lib.hid (below_alloc (Below.refl w.heap.size w) (.cells ZC.toArray 59))
  obtain ⟨W0, hW0⟩ : ∃ W, w.alloc (.cells ZC.toArray 59) = W := ⟨_, rfl⟩
  rw [hW0] at hbox HB0
  have HW0 := Lib.hid hW0
  have HS1 := Lib.hid (show ∀ u : World, Below W0.heap.size W0 u → (loadVar 22 ⟨w.heap.size, 0, none⟩).run Tryd.prog u = .ok (.slice A n c) u ∧ (loadVar 3 ⟨w.heap.size, 1, none⟩).run Tryd.prog u = .ok (.int .i64 I) u ∧ (loadVar 3 ⟨w.heap.size, 2, none⟩).run Tryd.prog u = .ok (.int .i64 AT) u ∧ u.rangeAt w.heap.size 3 HC from fun u hu => by
    have h1 := (hu.block _ (blk_lt hbox)).trans hbox
    rw [← hZ] at h1
    refine ⟨run_load_hs _ _ _ ((blk_cell h1 0).trans rfl), run_load_i64 _ _ _ ((blk_cell h1 1).trans rfl), run_load_i64 _ _ _ ((blk_cell h1 2).trans rfl), fun j v hj => ?_⟩
    rw [blk_cell h1, List.getElem?_toArray, List.getElem?_append_right (by simp), show 3 + j - [Value.slice A n c, .int .i64 I, .int .i64 AT].length = j by simp]
    exact hj)
  have hu := Tryd.underlying25
  have hiH : (Tryd.prog.info? 25).map (·.size) = some HC.length := by rw [hhl]; exact (zero_of_info infoHash).2
  have hz25 := (zero_of_info infoHash).1
  obtain ⟨Z, hZ0⟩ : ∃ X, (nums .u8 (List.replicate 32 0)).toArray = X := ⟨_, rfl⟩
  have hZs : Z.size = 32 := by rw [← hZ0]; rfl
  rw [hZ0] at hz25
  have HIH := Lib.hid (show (Tryd.prog.info? 25).map (·.size) = some HC.toArray.size ∧ Z.size = HC.toArray.size ∧ HC.toArray.all (·.oneCell') = true from ⟨by rw [List.size_toArray, hhl]; exact (zero_of_info infoHash).2, hZs.trans (by rw [List.size_toArray, hhl]), all_oneCell_toArray hH1⟩)
  have HHH := Lib.hid (And.intro hh hHC)
  have HHL := Lib.hid (And.intro hhl hH1)
  have HX := Lib.hid (And.intro hn (And.intro hc hH))
  have HR := Lib.hid (fun (u : World) (hu : Below w.heap.size w u) => Kd.C_below hr hu)
  have HRW := Lib.hid hr
  have HK := Lib.hid (fun (u : World) (hu : Below w.heap.size w u) => hK.below hu (Nat.le_refl _))
  clear hZ hbox hW0 hZ0 hZs hh hHC hhl hH1 hn hc hH hr hK
  go_enter Tryd.func11, Tryd.ntmps11
  go_wp2_with fail
  rw [HW0.out]
  have HBD := Lib.hid (below_drew (Below.refl W0.heap.size W0))
  have hHeld := HS1.out _ HBD.out
  refine wp_region_held (S := fun u => (loadVar 22 ⟨w.heap.size, 0, none⟩).run Tryd.prog u = .ok (.slice A n c) u ∧ (loadVar 3 ⟨w.heap.size, 1, none⟩).run Tryd.prog u = .ok (.int .i64 I) u ∧ (loadVar 3 ⟨w.heap.size, 2, none⟩).run Tryd.prog u = .ok (.int .i64 AT) u ∧ u.rangeAt w.heap.size 3 HC) (by kernel_rfl) ?_
  change wpAnyH _ _ _ _ _ _ _ _ (World.drew _)
  refine wpAnyH_take (i := 0) (oi := ({ dst := some 10, op := Op.fieldAddr 59 (Operand.tmp 1) 0, type := 0, pos := "law.go:82", after := #[], guard := none } : Oper)) (v := .pointer (some ⟨w.heap.size, 0, none⟩)) rfl (by kernel_rfl) (by kernel_rfl) (by kernel_rfl) (fun _ _ _ h => h) (Or.inl ⟨by rfl, fun w hSw => by go_simp⟩) hHeld ?_
  simp only [Act.put, List.setIfInBounds_toArray, List.set_cons_zero, List.set_cons_succ]
  refine wpAnyH_take (i := 1) (oi := ({ dst := some 11, op := Op.load 22 (Operand.tmp 10), type := 22, pos := "law.go:82", after := #[{ on := 0, ground := Ground.data }], guard := none } : Oper)) (v := .slice A n c) rfl (by kernel_rfl) (by kernel_rfl) (by kernel_rfl) (fun _ _ _ h => h) (Or.inl ⟨by rfl, fun w hSw => by obtain ⟨z0, z1, z2, z3⟩ := hSw; go_simp⟩) hHeld ?_
  simp only [Act.put, List.setIfInBounds_toArray, List.set_cons_zero, List.set_cons_succ]
  refine wpAnyH_take (i := 2) (oi := ({ dst := some 12, op := Op.fieldAddr 59 (Operand.tmp 1) 1, type := 0, pos := "law.go:82", after := #[{ on := 9, ground := Ground.gcOnly Departure.lateStores }], guard := none } : Oper)) (v := .pointer (some ⟨w.heap.size, 1, none⟩)) rfl (by kernel_rfl) (by kernel_rfl) (by kernel_rfl) (fun _ _ _ h => h) (Or.inl ⟨by rfl, fun w hSw => by go_simp⟩) hHeld ?_
  simp only [Act.put, List.setIfInBounds_toArray, List.set_cons_zero, List.set_cons_succ]
  refine wpAnyH_take (i := 3) (oi := ({ dst := some 13, op := Op.load 3 (Operand.tmp 12), type := 3, pos := "law.go:82", after := #[{ on := 2, ground := Ground.data }, { on := 9, ground := Ground.gcOnly Departure.lateStores }], guard := none } : Oper)) (v := .int .i64 I) rfl (by kernel_rfl) (by kernel_rfl) (by kernel_rfl) (fun _ _ _ h => h) (Or.inl ⟨by rfl, fun w hSw => by obtain ⟨z0, z1, z2, z3⟩ := hSw; go_simp⟩) hHeld ?_
  simp only [Act.put, List.setIfInBounds_toArray, List.set_cons_zero, List.set_cons_succ]
  refine wpAnyH_take (i := 4) (oi := ({ dst := some 14, op := Op.fieldAddr 59 (Operand.tmp 1) 2, type := 0, pos := "law.go:82", after := #[{ on := 10, ground := Ground.gcOnly Departure.lateStores }], guard := none } : Oper)) (v := .pointer (some ⟨w.heap.size, 2, none⟩)) rfl (by kernel_rfl) (by kernel_rfl) (by kernel_rfl) (fun _ _ _ h => h) (Or.inl ⟨by rfl, fun w hSw => by go_simp⟩) hHeld ?_
  simp only [Act.put, List.setIfInBounds_toArray, List.set_cons_zero, List.set_cons_succ]
  refine wpAnyH_take (i := 5) (oi := ({ dst := some 15, op := Op.load 3 (Operand.tmp 14), type := 3, pos := "law.go:82", after := #[{ on := 4, ground := Ground.data }, { on := 10, ground := Ground.gcOnly Departure.lateStores }], guard := none } : Oper)) (v := .int .i64 AT) rfl (by kernel_rfl) (by kernel_rfl) (by kernel_rfl) (fun _ _ _ h => h) (Or.inl ⟨by rfl, fun w hSw => by obtain ⟨z0, z1, z2, z3⟩ := hSw; go_simp⟩) hHeld ?_
  simp only [Act.put, List.setIfInBounds_toArray, List.set_cons_zero, List.set_cons_succ]
  refine wpAnyH_take (i := 6) (oi := ({ dst := some 16, op := Op.fieldAddr 59 (Operand.tmp 1) 3, type := 0, pos := "law.go:82", after := #[{ on := 11, ground := Ground.gcOnly Departure.lateStores }], guard := none } : Oper)) (v := .pointer (some ⟨w.heap.size, 3, none⟩)) rfl (by kernel_rfl) (by kernel_rfl) (by kernel_rfl) (fun _ _ _ h => h) (Or.inl ⟨by rfl, fun w hSw => by go_simp⟩) hHeld ?_
  simp only [Act.put, List.setIfInBounds_toArray, List.set_cons_zero, List.set_cons_succ]
  refine wpAnyH_take (i := 7) (oi := ({ dst := some 17, op := Op.load 25 (Operand.tmp 16), type := 25, pos := "law.go:82", after := #[{ on := 6, ground := Ground.data }, { on := 11, ground := Ground.gcOnly Departure.lateStores }], guard := none } : Oper)) (v := .agg HC.toArray) rfl (by kernel_rfl) (by kernel_rfl) (by kernel_rfl) (fun _ _ _ h => h) (yieldsIf_load_mid (by rfl) _ _ rfl w.heap.size 3 rfl HC _ (fun _ h => h.2.2.2) hu rfl hiH) hHeld ?_
  simp only [Act.put, List.setIfInBounds_toArray, List.set_cons_zero, List.set_cons_succ]
  have HB1 := Lib.hid (below_drew (below_alloc (Below.refl W0.heap.size W0) (.cells Z 25)))
  have HK1 := Lib.hid (heap_alloc_new W0 (.cells Z 25))
  have HB2 := Lib.hid (below_setRow HB1.out (Nat.le_refl _) HC.toArray)
  have hk2 := setRow_heap ((W0.alloc (.cells Z 25)).drew) W0.heap.size _ HC.toArray _ _ HK1.out
  refine wpAnyH_ready (rs := [8]) (by kernel_rfl) (by simp) ?_
  refine AllReadyH.cons (o := ({ dst := some 6, op := Op.alloc 25, type := 0, pos := "law.go:82", after := #[], guard := none } : Oper)) rfl (fun K hK => ?_) AllReadyH.nil
  go_simp
  refine hK.out _ _ (HS1.out _ HB1.out) (fun hHeld => ?_)
  clear hK K
  try simp only [Act.put, List.setIfInBounds_toArray, List.set_cons_zero, List.set_cons_succ]
  refine wpAnyH_take (i := 9) (oi := ({ dst := some 3, op := Op.assign (Operand.tmp 11), type := 22, pos := "law.go:82", after := #[{ on := 1, ground := Ground.data }, { on := 0, ground := Ground.phase }, { on := 1, ground := Ground.phase }, { on := 2, ground := Ground.textOnly Departure.lateStores }, { on := 3, ground := Ground.textOnly Departure.lateStores }, { on := 4, ground := Ground.textOnly Departure.lateStores }, { on := 5, ground := Ground.textOnly Departure.lateStores }, { on := 6, ground := Ground.textOnly Departure.lateStores }, { on := 7, ground := Ground.textOnly Departure.lateStores }, { on := 8, ground := Ground.phase }], guard := none } : Oper)) (v := .slice A n c) rfl (by kernel_rfl) (by kernel_rfl) (by kernel_rfl) (fun _ _ _ h => h) (Or.inl ⟨by rfl, fun w hSw => by go_simp⟩) hHeld ?_
  simp only [Act.put, List.setIfInBounds_toArray, List.set_cons_zero, List.set_cons_succ]
  refine wpAnyH_take (i := 10) (oi := ({ dst := some 4, op := Op.assign (Operand.tmp 13), type := 3, pos := "law.go:82", after := #[{ on := 3, ground := Ground.data }, { on := 9, ground := Ground.chain }, { on := 0, ground := Ground.phase }, { on := 1, ground := Ground.phase }, { on := 2, ground := Ground.phase }, { on := 3, ground := Ground.phase }, { on := 4, ground := Ground.textOnly Departure.lateStores }, { on := 5, ground := Ground.textOnly Departure.lateStores }, { on := 6, ground := Ground.textOnly Departure.lateStores }, { on := 7, ground := Ground.textOnly Departure.lateStores }, { on := 8, ground := Ground.phase }, { on := 9, ground := Ground.phase }], guard := none } : Oper)) (v := .int .i64 I) rfl (by kernel_rfl) (by kernel_rfl) (by kernel_rfl) (fun _ _ _ h => h) (Or.inl ⟨by rfl, fun w hSw => by go_simp⟩) hHeld ?_
  simp only [Act.put, List.setIfInBounds_toArray, List.set_cons_zero, List.set_cons_succ]
  refine wpAnyH_take (i := 11) (oi := ({ dst := some 5, op := Op.assign (Operand.tmp 15), type := 3, pos := "law.go:82", after := #[{ on := 5, ground := Ground.data }, { on := 10, ground := Ground.chain }, { on := 0, ground := Ground.phase }, { on := 1, ground := Ground.phase }, { on := 2, ground := Ground.phase }, { on := 3, ground := Ground.phase }, { on := 4, ground := Ground.phase }, { on := 5, ground := Ground.phase }, { on := 6, ground := Ground.textOnly Departure.lateStores }, { on := 7, ground := Ground.textOnly Departure.lateStores }, { on := 8, ground := Ground.phase }, { on := 9, ground := Ground.phase }, { on := 10, ground := Ground.phase }], guard := none } : Oper)) (v := .int .i64 AT) rfl (by kernel_rfl) (by kernel_rfl) (by kernel_rfl) (fun _ _ _ h => h) (Or.inl ⟨by rfl, fun w hSw => by go_simp⟩) hHeld ?_
  simp only [Act.put, List.setIfInBounds_toArray, List.set_cons_zero, List.set_cons_succ]
  refine wpAnyH_ready (rs := [12]) (by kernel_rfl) (by simp) ?_
  refine AllReadyH.cons (o := ({ dst := none, op := Op.store 25 (Operand.tmp 6) (Operand.tmp 17), type := 0, pos := "law.go:82", after := #[{ on := 8, ground := Ground.data }, { on := 7, ground := Ground.data }, { on := 11, ground := Ground.chain }, { on := 0, ground := Ground.phase }, { on := 1, ground := Ground.phase }, { on := 2, ground := Ground.phase }, { on := 3, ground := Ground.phase }, { on := 4, ground := Ground.phase }, { on := 5, ground := Ground.phase }, { on := 6, ground := Ground.phase }, { on := 7, ground := Ground.phase }, { on := 8, ground := Ground.phase }, { on := 9, ground := Ground.phase }, { on := 10, ground := Ground.phase }, { on := 11, ground := Ground.phase }], guard := none } : Oper)) rfl (fun K hK => ?_) AllReadyH.nil
  rw [if_pos (by rfl)]
  refine wp_store_row 25 (.tmp 6) (.tmp 17) rfl W0.heap.size HC.toArray (by rfl) (by rfl) 25 Z HK1.out HIH.out.1 HIH.out.2.1 HIH.out.2.2 ?_
  refine hK.out _ _ (HS1.out _ HB2.out) (fun hHeld => ?_)
  clear hK K
  try simp only [Act.put, List.setIfInBounds_toArray, List.set_cons_zero, List.set_cons_succ]
  refine wpAnyH_done (by kernel_rfl) ?_ _
  clear hHeld
  obtain ⟨W2, hW2⟩ : ∃ W, ((W0.alloc (.cells Z 25)).drew).setRow W0.heap.size HC.toArray = W := ⟨_, rfl⟩
  rw [hW2] at HB2 hk2 ⊢
  have HK2 := Lib.hid hk2
  have HW2 := Lib.hid (HB0.out.trans (Below.mono HB2.out HB0.out.size))
  clear hW2 hk2 HK1 HB1
  obtain h1 | h1 | h1 | hl : 20 < n ∨ (¬ 20 < n ∧ I < 0) ∨ (¬ 20 < n ∧ ¬ I < 0 ∧ (n : Int) ≤ I) ∨ ¬ (20 < n ∨ I < 0 ∨ (n : Int) ≤ I) := by omega
  · have f0 : (20 : Int) < (n : Int) := by omega
    go_wp2_with fail
    refine (HAW.out _ HW2.out).mono ?_
    rintro e w9 ⟨rfl, hb9⟩
    go_wp2_with fail
    go_ret
    exact ⟨rfl, (HW2.out).trans (Below.mono hb9 (HW2.out).size)⟩
  · have f0 : ¬ (20 : Int) < (n : Int) := by omega
    have f1 := h1.2
    go_wp2_with fail
    refine (HAW.out _ HW2.out).mono ?_
    rintro e w9 ⟨rfl, hb9⟩
    go_wp2_with fail
    go_ret
    exact ⟨rfl, (HW2.out).trans (Below.mono hb9 (HW2.out).size)⟩
  · have f0 : ¬ (20 : Int) < (n : Int) := by omega
    have f1 := h1.2.1
    have f2 := h1.2.2
    go_wp2_with fail
    refine (HAW.out _ HW2.out).mono ?_
    rintro e w9 ⟨rfl, hb9⟩
    go_wp2_with fail
    go_ret
    exact ⟨rfl, (HW2.out).trans (Below.mono hb9 (HW2.out).size)⟩
  · obtain ⟨i, rfl⟩ : ∃ k : Nat, I = (k : Int) := ⟨I.toNat, by omega⟩
    have hi : i < n := by omega
    have hx := HX.out
    obtain ⟨b, o, rfl, hbl, hrg⟩ := C_hash (w := w) (A := A) (xs := xs) (by rw [← hx.1]; exact HRW.out) (by rw [← hx.1]; omega)
    obtain ⟨hp, hp32⟩ := hrg i (by rw [← hx.1]; omega)
    have hpb := hx.2.2.any i
    obtain ⟨d, hd⟩ := depth_ex n
    have hd16 : d ≤ 16 := depth_le hd (m := 16) (by have h16 : (2 : Nat) ^ 16 = 65536 := by decide
                                                    omega)
    have hbent := fun (ys : List (List Int)) h1 h2 h3 => bent_meets (xs := xs) (ys := ys) hx.1 hd hi (by omega) h1 h2 h3
    obtain ⟨ys, hys⟩ : ∃ ys, pathF d xs i = ys := ⟨_, rfl⟩
    have hyl : ys.length = d := by rw [← hys]; exact pathF_len _ _ _
    have hyH : Hs ys := by rw [← hys]; exact pathF_Hs d xs i hx.2.2
    rw [hys] at hbent
    obtain ⟨p, hpe⟩ : ∃ p, rdH xs i = p := ⟨_, rfl⟩
    rw [hpe] at hp hp32 hpb hbent
    obtain ⟨P, hP⟩ : ∃ P, nums .u8 p = P := ⟨_, rfl⟩
    rw [hP] at hp
    have hPl : P.length = 32 := by rw [← hP, nums_len]; exact hp32
    have HMK := Lib.hid (fun (u : World) (hu : Below w.heap.size w u) => (show Calls Tryd.prog 30 #[.slice (some ⟨b, o, none⟩) n c, .int .i64 (i : Int)] u fun e w' => ∃ A3 c3, e = .returned (.tuple #[.agg #[.int .i64 (n : Int), .int .i64 (i : Int), .slice A3 d c3], .int .i64 0]) ∧ d ≤ c3 ∧ Kd.C kH w' A3 d ys ∧ Below u.heap.size u w' from by
      have h := make_calls (some ⟨b, o, none⟩) n c xs i d u hx.1 (HR.out u hu) hx.2.1 (by omega) hx.2.2 hi hd (HK.out u hu)
      rw [hys] at h
      exact h))
    have HRO := Lib.hid (fun (u : World) (hu : Below w.heap.size w u) => root_calls (some ⟨b, o, none⟩) n c xs u hx.1 (HR.out u hu) hx.2.1 (by omega) hx.2.2 (HK.out u hu))
    have HCK := Lib.hid (fun (zs : List (List Int)) (hzl : d = zs.length) (hzH : Hs zs) (A3 : Option Addr) (c3 : Nat) (u : World) (hr3 : Kd.C kH u A3 d zs) (hc3 : d ≤ c3) (hu : Below w.heap.size w u) => (show Calls Tryd.prog 33 #[.agg #[.int .i64 (n : Int), .int .i64 (i : Int), .slice A3 d c3], .agg (nums .u8 (rootP xs)).toArray, .agg P.toArray] u fun e w' => e = .returned (.int .i64 (checkP (n : Int) (i : Int) zs (rootP xs) p)) ∧ Below u.heap.size u w' from by
      have h9 := check_calls (n : Int) (i : Int) A3 d c3 zs (rootP xs) p u hzl hr3 hc3 hzH (rootP_hash hx.2.2).1 hp32 hpb.2 (HK.out u hu) (by omega) (by omega)
      rw [hP] at h9
      exact h9))
    have HRE := Lib.hid (fun (zs : List (List Int)) (hzl : d = zs.length) (hzH : Hs zs) (A3 : Option Addr) (c3 : Nat) (u : World) (hr3 : Kd.C kH u A3 d zs) (hc3 : d ≤ c3) => (show Calls Tryd.prog 36 #[.agg #[.int .i64 (n : Int), .int .i64 (i : Int), .slice A3 d c3]] u fun e w' => ∃ A2 c2, e = .returned (.agg #[.int .i64 (n : Int), .int .i64 (i : Int), .slice A2 d c2]) ∧ d ≤ c2 ∧ Kd.C kH w' A2 d zs ∧ Below u.heap.size u w' from lref9_calls (n : Int) (i : Int) A3 d c3 zs u hzl hr3 hc3 (by omega) hzH))
    have HME := Lib.hid (fun (zs : List (List Int)) (hzl : d = zs.length) (hzH : Hs zs) (A2 A3 : Option Addr) (c2 c3 : Nat) (u : World) (hr2 : Kd.C kH u A2 d ys) (hr3 : Kd.C kH u A3 d zs) => (show Calls Tryd.prog 39 #[.agg #[.int .i64 (n : Int), .int .i64 (i : Int), .slice A2 d c2], .agg #[.int .i64 (n : Int), .int .i64 (i : Int), .slice A3 d c3], .agg P.toArray] u fun e w' => e = .returned (.bool (meetsF ys zs i p p)) ∧ Below u.heap.size u w' from by
      have h9 := meets9_calls (n : Int) (n : Int) (i : Int) i A2 A3 d c2 c3 ys zs p u hyl.symm hzl (by omega) (by omega) hr2 hr3 hyH hzH ⟨hp32, hpb.2⟩
      rw [hP] at h9
      exact h9))
    obtain ⟨R, hR⟩ : ∃ X, (nums .u8 (rootP xs)).toArray = X := ⟨_, rfl⟩
    rw [hR] at HRO HCK
    have HI9 := Lib.hid (And.intro Tryd.underlying41 (zero_of_info infoB9).2)
    have hzb := (zero_of_info infoB9).1
    have hi1 : (Tryd.prog.info? 25).map (·.size) = some P.length := by rw [hPl]; exact (zero_of_info infoHash).2
    have HRG := Lib.hid (fun (u : World) (hu : Below w.heap.size w u) => range_below hu hbl hp)
    have HY := Lib.hid (And.intro hyl hyH)
    have HBT := Lib.hid hbent
    have hhl := HHL.out.1
    have g0 : ¬ (20 : Int) < (n : Int) := by omega
    have g1 : ¬ (i : Int) < 0 := by omega
    have g2 : ¬ (n : Int) ≤ (i : Int) := by omega
    have g3 : (0 : Int) ≤ (i : Int) := by omega
    have g4 : (i : Int) < (n : Int) := by omega
    clear hx hpe hP hPl hp hpb hp32 hrg hbl hd hyl hyH hys hbent hR
    go_wp2_with fail
    refine (HMK.out _ HW2.out).mono ?_
    rintro e w3 ⟨A1, c1, rfl, hc1, hC1, hb3⟩
    have hk4 := heap_alloc_new w3 (.cells #[.int .i64 (n : Int), .int .i64 (i : Int), .slice A1 d c1] 41)
    have hb4 := below_alloc (Below.refl w3.heap.size w3) (.cells #[.int .i64 (n : Int), .int .i64 (i : Int), .slice A1 d c1] 41)
    obtain ⟨W4, hW4⟩ : ∃ W, w3.alloc (.cells #[.int .i64 (n : Int), .int .i64 (i : Int), .slice A1 d c1] 41) = W := ⟨_, rfl⟩
    rw [hW4] at hk4 hb4
    have hs4 := hb4.size
    have hB24 := hb3.trans (Below.mono hb4 hb3.size)
    have HS4 := Lib.hid (show ∀ u : World, Below W4.heap.size W4 u → ((loadVar 3 ⟨w3.heap.size, 0, none⟩).run Tryd.prog u = .ok (.int .i64 (n : Int)) u ∧ (loadVar 3 ⟨w3.heap.size, 1, none⟩).run Tryd.prog u = .ok (.int .i64 (i : Int)) u ∧ (loadVar 22 ⟨w3.heap.size, 2, none⟩).run Tryd.prog u = .ok (.slice A1 d c1) u) ∧ u.rangeAt W0.heap.size 0 HC ∧ u.rangeAt b (o + i * 32) P ∧ (loadVar 41 ⟨w3.heap.size, 0, none⟩).run Tryd.prog u = .ok (.agg #[.int .i64 (n : Int), .int .i64 (i : Int), .slice A1 d c1]) u from fun u h => by
      have h9 := (h.block _ (blk_lt hk4)).trans hk4
      have hB := hB24.trans (Below.mono h hB24.size)
      exact ⟨⟨run_load_i64 _ _ _ ((blk_cell h9 0).trans rfl), run_load_i64 _ _ _ ((blk_cell h9 1).trans rfl), run_load_hs _ _ _ ((blk_cell h9 2).trans rfl)⟩, range_of ((hB.block _ (blk_lt HK2.out)).trans HK2.out), HRG.out u (HW2.out.trans (Below.mono hB HW2.out.size)), run_loadVar_row (P := Tryd.prog) u w3.heap.size 41 41 _ (0, 0) _ h9 HI9.out.1 rfl HI9.out.2⟩)
    have HC4 := Lib.hid (show ∀ u : World, Below W4.heap.size W4 u → Kd.C kH u A1 d ys ∧ Below w.heap.size w u ∧ u.heap[W0.heap.size]? = some (.cells HC.toArray 25 (0, 0)) from fun u h => ⟨Kd.C_below hC1 (hb4.trans (Below.mono h hs4)), HW2.out.trans (Below.mono (hB24.trans (Below.mono h hB24.size)) HW2.out.size), ((hB24.trans (Below.mono h hB24.size)).block _ (blk_lt HK2.out)).trans HK2.out⟩)
    have HC1 := Lib.hid hc1
    have HW4 := Lib.hid hW4
    clear hk4 hb4 hs4 hW4 hC1 hc1 hb3 hB24
    go_wp2_with ((with_reducible show wpList _ _ _ (Oper.mk _ (Op.store _ (.tmp 7) _) _ _ _ _ :: _) _ _); (go_loud (refine wpl_store_new rfl 41 (.tmp 7) (.tmp 36) rfl #[.int .i64 0, .int .i64 0, .slice none 0 0] #[.int .i64 (n : Int), .int .i64 (i : Int), .slice A1 d c1] rfl rfl HI9.out.2 rfl (by simp [Value.oneCell']) ?_)))
    rw [HW4.out]
    have HBD4 := Lib.hid (below_drew (Below.refl W4.heap.size W4))
    have HTR := Lib.hid (show ∀ u u' : World, Below W4.heap.size W4 u → Below u.heap.size u u' → Below W4.heap.size W4 u' from fun u u' hu hu' => hu.trans (Below.mono hu' hu.size))
    have HWD := Lib.hid (HC4.out _ HBD4.out).2.1
    have hld7 := (HS4.out _ HBD4.out).1.2.2
    by_cases t0 : AT < 0
    · have hHeld := hld7
      refine wp_region_held (S := fun u => (loadVar 22 ⟨w3.heap.size, 2, none⟩).run Tryd.prog u = .ok (.slice A1 d c1) u) (by kernel_rfl) ?_
      change wpAnyH _ _ _ _ _ _ _ _ (World.drew _)
      refine wpAnyH_take (i := 0) (oi := ({ dst := some 40, op := Op.move (Operand.tmp 5), type := 3, pos := "law.go:90", after := #[], guard := none } : Oper)) (v := .int .i64 AT) rfl (by kernel_rfl) (by kernel_rfl) (by kernel_rfl) (fun _ _ _ h => h) (Or.inl ⟨by rfl, fun w hSw => by go_simp⟩) hHeld ?_
      simp only [Act.put, List.setIfInBounds_toArray, List.set_cons_zero, List.set_cons_succ]
      refine wpAnyH_take (i := 1) (oi := ({ dst := some 41, op := Op.binOp BinOp.lss 3 (Operand.tmp 40) (Operand.const (Value.int IntKind.i64 0)) 3, type := 4, pos := "law.go:90", after := #[{ on := 0, ground := Ground.data }], guard := none } : Oper)) (v := .bool true) rfl (by kernel_rfl) (by kernel_rfl) (by kernel_rfl) (fun _ _ _ h => h) (Or.inl ⟨by rfl, fun w hSw => by go_simp⟩) hHeld ?_
      simp only [Act.put, List.setIfInBounds_toArray, List.set_cons_zero, List.set_cons_succ]
      refine wpAnyH_take (i := 2) (oi := ({ dst := some 42, op := Op.move (Operand.tmp 41), type := 4, pos := "law.go:90", after := #[{ on := 1, ground := Ground.data }], guard := none } : Oper)) (v := .bool true) rfl (by kernel_rfl) (by kernel_rfl) (by kernel_rfl) (fun _ _ _ h => h) (Or.inl ⟨by rfl, fun w hSw => by go_simp⟩) hHeld ?_
      simp only [Act.put, List.setIfInBounds_toArray, List.set_cons_zero, List.set_cons_succ]
      refine wpAnyH_take (i := 3) (oi := ({ dst := some 43, op := Op.move (Operand.tmp 5), type := 3, pos := "law.go:90", after := #[{ on := 2, ground := Ground.guard }], guard := some (2, false) } : Oper)) (v := undef) rfl (by kernel_rfl) (by kernel_rfl) (by kernel_rfl) (fun _ _ _ h => h) (Or.inr ⟨by rfl, rfl⟩) hHeld ?_
      simp only [Act.put, List.setIfInBounds_toArray, List.set_cons_zero, List.set_cons_succ]
      refine wpAnyH_take (i := 4) (oi := ({ dst := some 44, op := Op.fieldAddr 41 (Operand.tmp 7) 2, type := 0, pos := "law.go:90", after := #[{ on := 2, ground := Ground.guard }], guard := some (2, false) } : Oper)) (v := undef) rfl (by kernel_rfl) (by kernel_rfl) (by kernel_rfl) (fun _ _ _ h => h) (Or.inr ⟨by rfl, rfl⟩) hHeld ?_
      simp only [Act.put, List.setIfInBounds_toArray, List.set_cons_zero, List.set_cons_succ]
      refine wpAnyH_take (i := 5) (oi := ({ dst := some 45, op := Op.load 22 (Operand.tmp 44), type := 22, pos := "law.go:90", after := #[{ on := 4, ground := Ground.data }, { on := 2, ground := Ground.guard }], guard := some (2, false) } : Oper)) (v := undef) rfl (by kernel_rfl) (by kernel_rfl) (by kernel_rfl) (fun _ _ _ h => h) (Or.inr ⟨by rfl, rfl⟩) hHeld ?_
      simp only [Act.put, List.setIfInBounds_toArray, List.set_cons_zero, List.set_cons_succ]
      refine wpAnyH_take (i := 6) (oi := ({ dst := some 46, op := Op.call { callee := Callee.builtin Builtin.len, args := #[Operand.tmp 45], argTypes := #[22] }, type := 3, pos := "law.go:90", after := #[{ on := 5, ground := Ground.data }, { on := 2, ground := Ground.guard }], guard := some (2, false) } : Oper)) (v := undef) rfl (by kernel_rfl) (by kernel_rfl) (by kernel_rfl) (fun _ _ _ h => h) (Or.inr ⟨by rfl, rfl⟩) hHeld ?_
      simp only [Act.put, List.setIfInBounds_toArray, List.set_cons_zero, List.set_cons_succ]
      refine wpAnyH_take (i := 7) (oi := ({ dst := some 47, op := Op.binOp BinOp.geq 3 (Operand.tmp 43) (Operand.tmp 46) 3, type := 4, pos := "law.go:90", after := #[{ on := 3, ground := Ground.data }, { on := 6, ground := Ground.data }, { on := 2, ground := Ground.guard }], guard := some (2, false) } : Oper)) (v := undef) rfl (by kernel_rfl) (by kernel_rfl) (by kernel_rfl) (fun _ _ _ h => h) (Or.inr ⟨by rfl, rfl⟩) hHeld ?_
      simp only [Act.put, List.setIfInBounds_toArray, List.set_cons_zero, List.set_cons_succ]
      refine wpAnyH_take (i := 8) (oi := ({ dst := some 48, op := Op.pick (Operand.tmp 42) (Operand.const (Value.bool true)) (Operand.tmp 47), type := 4, pos := "law.go:90", after := #[{ on := 2, ground := Ground.data }, { on := 7, ground := Ground.data }], guard := none } : Oper)) (v := .bool true) rfl (by kernel_rfl) (by kernel_rfl) (by kernel_rfl) (fun _ _ _ h => h) (Or.inl ⟨by rfl, fun w hSw => by go_simp⟩) hHeld ?_
      simp only [Act.put, List.setIfInBounds_toArray, List.set_cons_zero, List.set_cons_succ]
      refine wpAnyH_take (i := 9) (oi := ({ dst := some 49, op := Op.move (Operand.tmp 48), type := 4, pos := "law.go:90", after := #[{ on := 8, ground := Ground.data }, { on := 2, ground := Ground.chain }], guard := none } : Oper)) (v := .bool true) rfl (by kernel_rfl) (by kernel_rfl) (by kernel_rfl) (fun _ _ _ h => h) (Or.inl ⟨by rfl, fun w hSw => by go_simp⟩) hHeld ?_
      simp only [Act.put, List.setIfInBounds_toArray, List.set_cons_zero, List.set_cons_succ]
      refine wpAnyH_take (i := 10) (oi := ({ dst := some 50, op := Op.fieldAddr 41 (Operand.tmp 7) 2, type := 0, pos := "law.go:90", after := #[{ on := 9, ground := Ground.guard }], guard := some (9, false) } : Oper)) (v := undef) rfl (by kernel_rfl) (by kernel_rfl) (by kernel_rfl) (fun _ _ _ h => h) (Or.inr ⟨by rfl, rfl⟩) hHeld ?_
      simp only [Act.put, List.setIfInBounds_toArray, List.set_cons_zero, List.set_cons_succ]
      refine wpAnyH_take (i := 11) (oi := ({ dst := some 51, op := Op.load 22 (Operand.tmp 50), type := 22, pos := "law.go:90", after := #[{ on := 10, ground := Ground.data }, { on := 9, ground := Ground.guard }], guard := some (9, false) } : Oper)) (v := undef) rfl (by kernel_rfl) (by kernel_rfl) (by kernel_rfl) (fun _ _ _ h => h) (Or.inr ⟨by rfl, rfl⟩) hHeld ?_
      simp only [Act.put, List.setIfInBounds_toArray, List.set_cons_zero, List.set_cons_succ]
      refine wpAnyH_take (i := 12) (oi := ({ dst := some 52, op := Op.move (Operand.tmp 5), type := 3, pos := "law.go:90", after := #[{ on := 9, ground := Ground.guard }], guard := some (9, false) } : Oper)) (v := undef) rfl (by kernel_rfl) (by kernel_rfl) (by kernel_rfl) (fun _ _ _ h => h) (Or.inr ⟨by rfl, rfl⟩) hHeld ?_
      simp only [Act.put, List.setIfInBounds_toArray, List.set_cons_zero, List.set_cons_succ]
      refine wpAnyH_take (i := 13) (oi := ({ dst := some 53, op := Op.indexAddr 22 (Operand.tmp 51) (Operand.tmp 52), type := 0, pos := "law.go:90", after := #[{ on := 11, ground := Ground.data }, { on := 12, ground := Ground.data }, { on := 9, ground := Ground.guard }], guard := some (9, false) } : Oper)) (v := undef) rfl (by kernel_rfl) (by kernel_rfl) (by kernel_rfl) (fun _ _ _ h => h) (Or.inr ⟨by rfl, rfl⟩) hHeld ?_
      simp only [Act.put, List.setIfInBounds_toArray, List.set_cons_zero, List.set_cons_succ]
      refine wpAnyH_take (i := 14) (oi := ({ dst := some 54, op := Op.load 25 (Operand.tmp 53), type := 25, pos := "law.go:90", after := #[{ on := 13, ground := Ground.data }, { on := 9, ground := Ground.guard }], guard := some (9, false) } : Oper)) (v := undef) rfl (by kernel_rfl) (by kernel_rfl) (by kernel_rfl) (fun _ _ _ h => h) (Or.inr ⟨by rfl, rfl⟩) hHeld ?_
      simp only [Act.put, List.setIfInBounds_toArray, List.set_cons_zero, List.set_cons_succ]
      refine wpAnyH_take (i := 15) (oi := ({ dst := some 55, op := Op.load 25 (Operand.tmp 6), type := 25, pos := "law.go:90", after := #[{ on := 9, ground := Ground.guard }], guard := some (9, false) } : Oper)) (v := undef) rfl (by kernel_rfl) (by kernel_rfl) (by kernel_rfl) (fun _ _ _ h => h) (Or.inr ⟨by rfl, rfl⟩) hHeld ?_
      simp only [Act.put, List.setIfInBounds_toArray, List.set_cons_zero, List.set_cons_succ]
      refine wpAnyH_take (i := 16) (oi := ({ dst := some 56, op := Op.binOp BinOp.eql 25 (Operand.tmp 54) (Operand.tmp 55) 25, type := 4, pos := "law.go:90", after := #[{ on := 14, ground := Ground.data }, { on := 15, ground := Ground.data }, { on := 9, ground := Ground.guard }], guard := some (9, false) } : Oper)) (v := undef) rfl (by kernel_rfl) (by kernel_rfl) (by kernel_rfl) (fun _ _ _ h => h) (Or.inr ⟨by rfl, rfl⟩) hHeld ?_
      simp only [Act.put, List.setIfInBounds_toArray, List.set_cons_zero, List.set_cons_succ]
      refine wpAnyH_take (i := 17) (oi := ({ dst := some 57, op := Op.pick (Operand.tmp 49) (Operand.const (Value.bool true)) (Operand.tmp 56), type := 4, pos := "law.go:90", after := #[{ on := 9, ground := Ground.data }, { on := 16, ground := Ground.data }], guard := none } : Oper)) (v := .bool true) rfl (by kernel_rfl) (by kernel_rfl) (by kernel_rfl) (fun _ _ _ h => h) (Or.inl ⟨by rfl, fun w hSw => by go_simp⟩) hHeld ?_
      simp only [Act.put, List.setIfInBounds_toArray, List.set_cons_zero, List.set_cons_succ]
      refine wpAnyH_done (by kernel_rfl) ?_ _
      clear hHeld hld7
      go_wp2_with fail
      refine (HAW.out _ HWD.out).mono ?_
      rintro e w9 ⟨rfl, hb9⟩
      go_wp2_with fail
      go_ret
      exact ⟨rfl, (HWD.out).trans (Below.mono hb9 (HWD.out).size)⟩
    · obtain ⟨j, rfl⟩ : ∃ k : Nat, AT = (k : Int) := ⟨AT.toNat, by omega⟩
      by_cases t1 : (d : Int) ≤ (j : Int)
      · have hHeld := hld7
        refine wp_region_held (S := fun u => (loadVar 22 ⟨w3.heap.size, 2, none⟩).run Tryd.prog u = .ok (.slice A1 d c1) u) (by kernel_rfl) ?_
        change wpAnyH _ _ _ _ _ _ _ _ (World.drew _)
        refine wpAnyH_take (i := 0) (oi := ({ dst := some 40, op := Op.move (Operand.tmp 5), type := 3, pos := "law.go:90", after := #[], guard := none } : Oper)) (v := .int .i64 (j : Int)) rfl (by kernel_rfl) (by kernel_rfl) (by kernel_rfl) (fun _ _ _ h => h) (Or.inl ⟨by rfl, fun w hSw => by go_simp⟩) hHeld ?_
        simp only [Act.put, List.setIfInBounds_toArray, List.set_cons_zero, List.set_cons_succ]
        refine wpAnyH_take (i := 1) (oi := ({ dst := some 41, op := Op.binOp BinOp.lss 3 (Operand.tmp 40) (Operand.const (Value.int IntKind.i64 0)) 3, type := 4, pos := "law.go:90", after := #[{ on := 0, ground := Ground.data }], guard := none } : Oper)) (v := .bool false) rfl (by kernel_rfl) (by kernel_rfl) (by kernel_rfl) (fun _ _ _ h => h) (Or.inl ⟨by rfl, fun w hSw => by go_simp⟩) hHeld ?_
        simp only [Act.put, List.setIfInBounds_toArray, List.set_cons_zero, List.set_cons_succ]
        refine wpAnyH_take (i := 2) (oi := ({ dst := some 42, op := Op.move (Operand.tmp 41), type := 4, pos := "law.go:90", after := #[{ on := 1, ground := Ground.data }], guard := none } : Oper)) (v := .bool false) rfl (by kernel_rfl) (by kernel_rfl) (by kernel_rfl) (fun _ _ _ h => h) (Or.inl ⟨by rfl, fun w hSw => by go_simp⟩) hHeld ?_
        simp only [Act.put, List.setIfInBounds_toArray, List.set_cons_zero, List.set_cons_succ]
        refine wpAnyH_take (i := 3) (oi := ({ dst := some 43, op := Op.move (Operand.tmp 5), type := 3, pos := "law.go:90", after := #[{ on := 2, ground := Ground.guard }], guard := some (2, false) } : Oper)) (v := .int .i64 (j : Int)) rfl (by kernel_rfl) (by kernel_rfl) (by kernel_rfl) (fun _ _ _ h => h) (Or.inl ⟨by rfl, fun w hSw => by go_simp⟩) hHeld ?_
        simp only [Act.put, List.setIfInBounds_toArray, List.set_cons_zero, List.set_cons_succ]
        refine wpAnyH_take (i := 4) (oi := ({ dst := some 44, op := Op.fieldAddr 41 (Operand.tmp 7) 2, type := 0, pos := "law.go:90", after := #[{ on := 2, ground := Ground.guard }], guard := some (2, false) } : Oper)) (v := .pointer (some ⟨w3.heap.size, 2, none⟩)) rfl (by kernel_rfl) (by kernel_rfl) (by kernel_rfl) (fun _ _ _ h => h) (Or.inl ⟨by rfl, fun w hSw => by go_simp⟩) hHeld ?_
        simp only [Act.put, List.setIfInBounds_toArray, List.set_cons_zero, List.set_cons_succ]
        refine wpAnyH_take (i := 5) (oi := ({ dst := some 45, op := Op.load 22 (Operand.tmp 44), type := 22, pos := "law.go:90", after := #[{ on := 4, ground := Ground.data }, { on := 2, ground := Ground.guard }], guard := some (2, false) } : Oper)) (v := .slice A1 d c1) rfl (by kernel_rfl) (by kernel_rfl) (by kernel_rfl) (fun _ _ _ h => h) (Or.inl ⟨by rfl, fun w hSw => by go_simp⟩) hHeld ?_
        simp only [Act.put, List.setIfInBounds_toArray, List.set_cons_zero, List.set_cons_succ]
        refine wpAnyH_take (i := 6) (oi := ({ dst := some 46, op := Op.call { callee := Callee.builtin Builtin.len, args := #[Operand.tmp 45], argTypes := #[22] }, type := 3, pos := "law.go:90", after := #[{ on := 5, ground := Ground.data }, { on := 2, ground := Ground.guard }], guard := some (2, false) } : Oper)) (v := .int .i64 (d : Int)) rfl (by kernel_rfl) (by kernel_rfl) (by kernel_rfl) (fun _ _ _ h => h) (Or.inl ⟨by rfl, fun w hSw => by go_simp⟩) hHeld ?_
        simp only [Act.put, List.setIfInBounds_toArray, List.set_cons_zero, List.set_cons_succ]
        refine wpAnyH_take (i := 7) (oi := ({ dst := some 47, op := Op.binOp BinOp.geq 3 (Operand.tmp 43) (Operand.tmp 46) 3, type := 4, pos := "law.go:90", after := #[{ on := 3, ground := Ground.data }, { on := 6, ground := Ground.data }, { on := 2, ground := Ground.guard }], guard := some (2, false) } : Oper)) (v := .bool true) rfl (by kernel_rfl) (by kernel_rfl) (by kernel_rfl) (fun _ _ _ h => h) (Or.inl ⟨by rfl, fun w hSw => by go_simp⟩) hHeld ?_
        simp only [Act.put, List.setIfInBounds_toArray, List.set_cons_zero, List.set_cons_succ]
        refine wpAnyH_take (i := 8) (oi := ({ dst := some 48, op := Op.pick (Operand.tmp 42) (Operand.const (Value.bool true)) (Operand.tmp 47), type := 4, pos := "law.go:90", after := #[{ on := 2, ground := Ground.data }, { on := 7, ground := Ground.data }], guard := none } : Oper)) (v := .bool true) rfl (by kernel_rfl) (by kernel_rfl) (by kernel_rfl) (fun _ _ _ h => h) (Or.inl ⟨by rfl, fun w hSw => by go_simp⟩) hHeld ?_
        simp only [Act.put, List.setIfInBounds_toArray, List.set_cons_zero, List.set_cons_succ]
        refine wpAnyH_take (i := 9) (oi := ({ dst := some 49, op := Op.move (Operand.tmp 48), type := 4, pos := "law.go:90", after := #[{ on := 8, ground := Ground.data }, { on := 2, ground := Ground.chain }], guard := none } : Oper)) (v := .bool true) rfl (by kernel_rfl) (by kernel_rfl) (by kernel_rfl) (fun _ _ _ h => h) (Or.inl ⟨by rfl, fun w hSw => by go_simp⟩) hHeld ?_
        simp only [Act.put, List.setIfInBounds_toArray, List.set_cons_zero, List.set_cons_succ]
        refine wpAnyH_take (i := 10) (oi := ({ dst := some 50, op := Op.fieldAddr 41 (Operand.tmp 7) 2, type := 0, pos := "law.go:90", after := #[{ on := 9, ground := Ground.guard }], guard := some (9, false) } : Oper)) (v := undef) rfl (by kernel_rfl) (by kernel_rfl) (by kernel_rfl) (fun _ _ _ h => h) (Or.inr ⟨by rfl, rfl⟩) hHeld ?_
        simp only [Act.put, List.setIfInBounds_toArray, List.set_cons_zero, List.set_cons_succ]
        refine wpAnyH_take (i := 11) (oi := ({ dst := some 51, op := Op.load 22 (Operand.tmp 50), type := 22, pos := "law.go:90", after := #[{ on := 10, ground := Ground.data }, { on := 9, ground := Ground.guard }], guard := some (9, false) } : Oper)) (v := undef) rfl (by kernel_rfl) (by kernel_rfl) (by kernel_rfl) (fun _ _ _ h => h) (Or.inr ⟨by rfl, rfl⟩) hHeld ?_
        simp only [Act.put, List.setIfInBounds_toArray, List.set_cons_zero, List.set_cons_succ]
        refine wpAnyH_take (i := 12) (oi := ({ dst := some 52, op := Op.move (Operand.tmp 5), type := 3, pos := "law.go:90", after := #[{ on := 9, ground := Ground.guard }], guard := some (9, false) } : Oper)) (v := undef) rfl (by kernel_rfl) (by kernel_rfl) (by kernel_rfl) (fun _ _ _ h => h) (Or.inr ⟨by rfl, rfl⟩) hHeld ?_
        simp only [Act.put, List.setIfInBounds_toArray, List.set_cons_zero, List.set_cons_succ]
        refine wpAnyH_take (i := 13) (oi := ({ dst := some 53, op := Op.indexAddr 22 (Operand.tmp 51) (Operand.tmp 52), type := 0, pos := "law.go:90", after := #[{ on := 11, ground := Ground.data }, { on := 12, ground := Ground.data }, { on := 9, ground := Ground.guard }], guard := some (9, false) } : Oper)) (v := undef) rfl (by kernel_rfl) (by kernel_rfl) (by kernel_rfl) (fun _ _ _ h => h) (Or.inr ⟨by rfl, rfl⟩) hHeld ?_
        simp only [Act.put, List.setIfInBounds_toArray, List.set_cons_zero, List.set_cons_succ]
        refine wpAnyH_take (i := 14) (oi := ({ dst := some 54, op := Op.load 25 (Operand.tmp 53), type := 25, pos := "law.go:90", after := #[{ on := 13, ground := Ground.data }, { on := 9, ground := Ground.guard }], guard := some (9, false) } : Oper)) (v := undef) rfl (by kernel_rfl) (by kernel_rfl) (by kernel_rfl) (fun _ _ _ h => h) (Or.inr ⟨by rfl, rfl⟩) hHeld ?_
        simp only [Act.put, List.setIfInBounds_toArray, List.set_cons_zero, List.set_cons_succ]
        refine wpAnyH_take (i := 15) (oi := ({ dst := some 55, op := Op.load 25 (Operand.tmp 6), type := 25, pos := "law.go:90", after := #[{ on := 9, ground := Ground.guard }], guard := some (9, false) } : Oper)) (v := undef) rfl (by kernel_rfl) (by kernel_rfl) (by kernel_rfl) (fun _ _ _ h => h) (Or.inr ⟨by rfl, rfl⟩) hHeld ?_
        simp only [Act.put, List.setIfInBounds_toArray, List.set_cons_zero, List.set_cons_succ]
        refine wpAnyH_take (i := 16) (oi := ({ dst := some 56, op := Op.binOp BinOp.eql 25 (Operand.tmp 54) (Operand.tmp 55) 25, type := 4, pos := "law.go:90", after := #[{ on := 14, ground := Ground.data }, { on := 15, ground := Ground.data }, { on := 9, ground := Ground.guard }], guard := some (9, false) } : Oper)) (v := undef) rfl (by kernel_rfl) (by kernel_rfl) (by kernel_rfl) (fun _ _ _ h => h) (Or.inr ⟨by rfl, rfl⟩) hHeld ?_
        simp only [Act.put, List.setIfInBounds_toArray, List.set_cons_zero, List.set_cons_succ]
        refine wpAnyH_take (i := 17) (oi := ({ dst := some 57, op := Op.pick (Operand.tmp 49) (Operand.const (Value.bool true)) (Operand.tmp 56), type := 4, pos := "law.go:90", after := #[{ on := 9, ground := Ground.data }, { on := 16, ground := Ground.data }], guard := none } : Oper)) (v := .bool true) rfl (by kernel_rfl) (by kernel_rfl) (by kernel_rfl) (fun _ _ _ h => h) (Or.inl ⟨by rfl, fun w hSw => by go_simp⟩) hHeld ?_
        simp only [Act.put, List.setIfInBounds_toArray, List.set_cons_zero, List.set_cons_succ]
        refine wpAnyH_done (by kernel_rfl) ?_ _
        clear hHeld hld7
        go_wp2_with fail
        refine (HAW.out _ HWD.out).mono ?_
        rintro e w9 ⟨rfl, hb9⟩
        go_wp2_with fail
        go_ret
        exact ⟨rfl, (HWD.out).trans (Below.mono hb9 (HWD.out).size)⟩
      · have hjd : j < d := by omega
        have hj0 : (0 : Int) ≤ (j : Int) := by omega
        have hj1 : (j : Int) < (d : Int) := by omega
        obtain ⟨b1, o1, rfl, hbl1, hrg1⟩ := C_hash (w := W4) (A := A1) (xs := ys) (by rw [HY.out.1]; exact (HC4.out W4 (Below.refl _ _)).1) (by rw [HY.out.1]; omega)
        have r1 := (hrg1 j (by rw [HY.out.1]; exact hjd)).1
        have hyj := HY.out.2.any j
        have q0 := fun u => eqH (rdH ys j) h hyj.1 HHH.out.1.1 u
        have hQl : (nums .u8 (rdH ys j)).length = 32 := by rw [nums_len]; exact hyj.1
        obtain ⟨Q, hQ⟩ : ∃ X, nums .u8 (rdH ys j) = X := ⟨_, rfl⟩
        rw [hQ] at r1 q0 hQl
        rw [HHH.out.2] at q0
        obtain ⟨sm, hsm⟩ : ∃ x, (rdH ys j == h) = x := ⟨_, rfl⟩
        rw [hsm] at q0
        have HSM := Lib.hid hsm
        have HQQ := Lib.hid hQ
        have hiQ : (Tryd.prog.info? 25).map (·.size) = some Q.length := by rw [hQl]; exact (zero_of_info infoHash).2
        have hHeld : (loadVar 22 ⟨w3.heap.size, 2, none⟩).run Tryd.prog W4.drew = .ok (.slice (some ⟨b1, o1, none⟩) d c1) W4.drew ∧ W4.drew.rangeAt b1 (o1 + j * 32) Q ∧ W4.drew.rangeAt W0.heap.size 0 HC := ⟨hld7, r1, (HS4.out _ HBD4.out).2.1⟩
        clear hsm hQ hyj hrg1 hbl1 r1 hld7
        refine wp_region_held (S := fun u => (loadVar 22 ⟨w3.heap.size, 2, none⟩).run Tryd.prog u = .ok (.slice (some ⟨b1, o1, none⟩) d c1) u ∧ u.rangeAt b1 (o1 + j * 32) Q ∧ u.rangeAt W0.heap.size 0 HC) (by kernel_rfl) ?_
        change wpAnyH _ _ _ _ _ _ _ _ (World.drew _)
        refine wpAnyH_take (i := 0) (oi := ({ dst := some 40, op := Op.move (Operand.tmp 5), type := 3, pos := "law.go:90", after := #[], guard := none } : Oper)) (v := .int .i64 (j : Int)) rfl (by kernel_rfl) (by kernel_rfl) (by kernel_rfl) (fun _ _ _ h => h) (Or.inl ⟨by rfl, fun w hSw => by go_simp⟩) hHeld ?_
        simp only [Act.put, List.setIfInBounds_toArray, List.set_cons_zero, List.set_cons_succ]
        refine wpAnyH_take (i := 1) (oi := ({ dst := some 41, op := Op.binOp BinOp.lss 3 (Operand.tmp 40) (Operand.const (Value.int IntKind.i64 0)) 3, type := 4, pos := "law.go:90", after := #[{ on := 0, ground := Ground.data }], guard := none } : Oper)) (v := .bool false) rfl (by kernel_rfl) (by kernel_rfl) (by kernel_rfl) (fun _ _ _ h => h) (Or.inl ⟨by rfl, fun w hSw => by go_simp⟩) hHeld ?_
        simp only [Act.put, List.setIfInBounds_toArray, List.set_cons_zero, List.set_cons_succ]
        refine wpAnyH_take (i := 2) (oi := ({ dst := some 42, op := Op.move (Operand.tmp 41), type := 4, pos := "law.go:90", after := #[{ on := 1, ground := Ground.data }], guard := none } : Oper)) (v := .bool false) rfl (by kernel_rfl) (by kernel_rfl) (by kernel_rfl) (fun _ _ _ h => h) (Or.inl ⟨by rfl, fun w hSw => by go_simp⟩) hHeld ?_
        simp only [Act.put, List.setIfInBounds_toArray, List.set_cons_zero, List.set_cons_succ]
        refine wpAnyH_take (i := 3) (oi := ({ dst := some 43, op := Op.move (Operand.tmp 5), type := 3, pos := "law.go:90", after := #[{ on := 2, ground := Ground.guard }], guard := some (2, false) } : Oper)) (v := .int .i64 (j : Int)) rfl (by kernel_rfl) (by kernel_rfl) (by kernel_rfl) (fun _ _ _ h => h) (Or.inl ⟨by rfl, fun w hSw => by go_simp⟩) hHeld ?_
        simp only [Act.put, List.setIfInBounds_toArray, List.set_cons_zero, List.set_cons_succ]
        refine wpAnyH_take (i := 4) (oi := ({ dst := some 44, op := Op.fieldAddr 41 (Operand.tmp 7) 2, type := 0, pos := "law.go:90", after := #[{ on := 2, ground := Ground.guard }], guard := some (2, false) } : Oper)) (v := .pointer (some ⟨w3.heap.size, 2, none⟩)) rfl (by kernel_rfl) (by kernel_rfl) (by kernel_rfl) (fun _ _ _ h => h) (Or.inl ⟨by rfl, fun w hSw => by go_simp⟩) hHeld ?_
        simp only [Act.put, List.setIfInBounds_toArray, List.set_cons_zero, List.set_cons_succ]
        refine wpAnyH_take (i := 5) (oi := ({ dst := some 45, op := Op.load 22 (Operand.tmp 44), type := 22, pos := "law.go:90", after := #[{ on := 4, ground := Ground.data }, { on := 2, ground := Ground.guard }], guard := some (2, false) } : Oper)) (v := .slice (some ⟨b1, o1, none⟩) d c1) rfl (by kernel_rfl) (by kernel_rfl) (by kernel_rfl) (fun _ _ _ h => h) (Or.inl ⟨by rfl, fun w hSw => by obtain ⟨z0, z1, z2⟩ := hSw; go_simp⟩) hHeld ?_
        simp only [Act.put, List.setIfInBounds_toArray, List.set_cons_zero, List.set_cons_succ]
        refine wpAnyH_take (i := 6) (oi := ({ dst := some 46, op := Op.call { callee := Callee.builtin Builtin.len, args := #[Operand.tmp 45], argTypes := #[22] }, type := 3, pos := "law.go:90", after := #[{ on := 5, ground := Ground.data }, { on := 2, ground := Ground.guard }], guard := some (2, false) } : Oper)) (v := .int .i64 (d : Int)) rfl (by kernel_rfl) (by kernel_rfl) (by kernel_rfl) (fun _ _ _ h => h) (Or.inl ⟨by rfl, fun w hSw => by go_simp⟩) hHeld ?_
        simp only [Act.put, List.setIfInBounds_toArray, List.set_cons_zero, List.set_cons_succ]
        refine wpAnyH_take (i := 7) (oi := ({ dst := some 47, op := Op.binOp BinOp.geq 3 (Operand.tmp 43) (Operand.tmp 46) 3, type := 4, pos := "law.go:90", after := #[{ on := 3, ground := Ground.data }, { on := 6, ground := Ground.data }, { on := 2, ground := Ground.guard }], guard := some (2, false) } : Oper)) (v := .bool false) rfl (by kernel_rfl) (by kernel_rfl) (by kernel_rfl) (fun _ _ _ h => h) (Or.inl ⟨by rfl, fun w hSw => by go_simp⟩) hHeld ?_
        simp only [Act.put, List.setIfInBounds_toArray, List.set_cons_zero, List.set_cons_succ]
        refine wpAnyH_take (i := 8) (oi := ({ dst := some 48, op := Op.pick (Operand.tmp 42) (Operand.const (Value.bool true)) (Operand.tmp 47), type := 4, pos := "law.go:90", after := #[{ on := 2, ground := Ground.data }, { on := 7, ground := Ground.data }], guard := none } : Oper)) (v := .bool false) rfl (by kernel_rfl) (by kernel_rfl) (by kernel_rfl) (fun _ _ _ h => h) (Or.inl ⟨by rfl, fun w hSw => by go_simp⟩) hHeld ?_
        simp only [Act.put, List.setIfInBounds_toArray, List.set_cons_zero, List.set_cons_succ]
        refine wpAnyH_take (i := 9) (oi := ({ dst := some 49, op := Op.move (Operand.tmp 48), type := 4, pos := "law.go:90", after := #[{ on := 8, ground := Ground.data }, { on := 2, ground := Ground.chain }], guard := none } : Oper)) (v := .bool false) rfl (by kernel_rfl) (by kernel_rfl) (by kernel_rfl) (fun _ _ _ h => h) (Or.inl ⟨by rfl, fun w hSw => by go_simp⟩) hHeld ?_
        simp only [Act.put, List.setIfInBounds_toArray, List.set_cons_zero, List.set_cons_succ]
        refine wpAnyH_take (i := 10) (oi := ({ dst := some 50, op := Op.fieldAddr 41 (Operand.tmp 7) 2, type := 0, pos := "law.go:90", after := #[{ on := 9, ground := Ground.guard }], guard := some (9, false) } : Oper)) (v := .pointer (some ⟨w3.heap.size, 2, none⟩)) rfl (by kernel_rfl) (by kernel_rfl) (by kernel_rfl) (fun _ _ _ h => h) (Or.inl ⟨by rfl, fun w hSw => by go_simp⟩) hHeld ?_
        simp only [Act.put, List.setIfInBounds_toArray, List.set_cons_zero, List.set_cons_succ]
        refine wpAnyH_take (i := 11) (oi := ({ dst := some 51, op := Op.load 22 (Operand.tmp 50), type := 22, pos := "law.go:90", after := #[{ on := 10, ground := Ground.data }, { on := 9, ground := Ground.guard }], guard := some (9, false) } : Oper)) (v := .slice (some ⟨b1, o1, none⟩) d c1) rfl (by kernel_rfl) (by kernel_rfl) (by kernel_rfl) (fun _ _ _ h => h) (Or.inl ⟨by rfl, fun w hSw => by obtain ⟨z0, z1, z2⟩ := hSw; go_simp⟩) hHeld ?_
        simp only [Act.put, List.setIfInBounds_toArray, List.set_cons_zero, List.set_cons_succ]
        refine wpAnyH_take (i := 12) (oi := ({ dst := some 52, op := Op.move (Operand.tmp 5), type := 3, pos := "law.go:90", after := #[{ on := 9, ground := Ground.guard }], guard := some (9, false) } : Oper)) (v := .int .i64 (j : Int)) rfl (by kernel_rfl) (by kernel_rfl) (by kernel_rfl) (fun _ _ _ h => h) (Or.inl ⟨by rfl, fun w hSw => by go_simp⟩) hHeld ?_
        simp only [Act.put, List.setIfInBounds_toArray, List.set_cons_zero, List.set_cons_succ]
        refine wpAnyH_take (i := 13) (oi := ({ dst := some 53, op := Op.indexAddr 22 (Operand.tmp 51) (Operand.tmp 52), type := 0, pos := "law.go:90", after := #[{ on := 11, ground := Ground.data }, { on := 12, ground := Ground.data }, { on := 9, ground := Ground.guard }], guard := some (9, false) } : Oper)) (v := .pointer (some ⟨b1, o1 + j * 32, none⟩)) rfl (by kernel_rfl) (by kernel_rfl) (by kernel_rfl) (fun _ _ _ h => h) (Or.inl ⟨by rfl, fun w hSw => by go_simp⟩) hHeld ?_
        simp only [Act.put, List.setIfInBounds_toArray, List.set_cons_zero, List.set_cons_succ]
        refine wpAnyH_take (i := 14) (oi := ({ dst := some 54, op := Op.load 25 (Operand.tmp 53), type := 25, pos := "law.go:90", after := #[{ on := 13, ground := Ground.data }, { on := 9, ground := Ground.guard }], guard := some (9, false) } : Oper)) (v := .agg Q.toArray) rfl (by kernel_rfl) (by kernel_rfl) (by kernel_rfl) (fun _ _ _ h => h) (yieldsIf_load_mid (by rfl) _ _ rfl b1 (o1 + j * 32) rfl Q _ (fun _ h => h.2.1) hu rfl hiQ) hHeld ?_
        simp only [Act.put, List.setIfInBounds_toArray, List.set_cons_zero, List.set_cons_succ]
        refine wpAnyH_take (i := 15) (oi := ({ dst := some 55, op := Op.load 25 (Operand.tmp 6), type := 25, pos := "law.go:90", after := #[{ on := 9, ground := Ground.guard }], guard := some (9, false) } : Oper)) (v := .agg HC.toArray) rfl (by kernel_rfl) (by kernel_rfl) (by kernel_rfl) (fun _ _ _ h => h) (yieldsIf_load_mid (by rfl) _ _ rfl W0.heap.size 0 rfl HC _ (fun _ h => h.2.2) hu rfl hiH) hHeld ?_
        simp only [Act.put, List.setIfInBounds_toArray, List.set_cons_zero, List.set_cons_succ]
        refine wpAnyH_take (i := 16) (oi := ({ dst := some 56, op := Op.binOp BinOp.eql 25 (Operand.tmp 54) (Operand.tmp 55) 25, type := 4, pos := "law.go:90", after := #[{ on := 14, ground := Ground.data }, { on := 15, ground := Ground.data }, { on := 9, ground := Ground.guard }], guard := some (9, false) } : Oper)) (v := .bool sm) rfl (by kernel_rfl) (by kernel_rfl) (by kernel_rfl) (fun _ _ _ h => h) (Or.inl ⟨by rfl, fun w hSw => by go_simp⟩) hHeld ?_
        simp only [Act.put, List.setIfInBounds_toArray, List.set_cons_zero, List.set_cons_succ]
        refine wpAnyH_take (i := 17) (oi := ({ dst := some 57, op := Op.pick (Operand.tmp 49) (Operand.const (Value.bool true)) (Operand.tmp 56), type := 4, pos := "law.go:90", after := #[{ on := 9, ground := Ground.data }, { on := 16, ground := Ground.data }], guard := none } : Oper)) (v := .bool sm) rfl (by kernel_rfl) (by kernel_rfl) (by kernel_rfl) (fun _ _ _ h => h) (Or.inl ⟨by rfl, fun w hSw => by go_simp⟩) hHeld ?_
        simp only [Act.put, List.setIfInBounds_toArray, List.set_cons_zero, List.set_cons_succ]
        refine wpAnyH_done (by kernel_rfl) ?_ _
        clear hHeld q0 hiQ
        cases sm with
        | true =>
          go_wp2_with fail
          refine (HAW.out _ HWD.out).mono ?_
          rintro e w9 ⟨rfl, hb9⟩
          go_wp2_with fail
          go_ret
          exact ⟨rfl, (HWD.out).trans (Below.mono hb9 (HWD.out).size)⟩
        | false =>
          have hne : rdH ys j ≠ h := by
            intro e
            have h9 := HSM.out
            rw [e] at h9
            simp at h9
          obtain ⟨W7, hW7⟩ : ∃ W, W4.drew = W := ⟨_, rfl⟩
          have HBW7 := Lib.hid (show Below W4.heap.size W4 W7 from by rw [← hW7]; exact HBD4.out)
          rw [hW7]
          clear hW7
          have HT7 := Lib.hid (show ∀ u : World, Below W7.heap.size W7 u → Below W4.heap.size W4 u from fun u hu => HBW7.out.trans (Below.mono hu HBW7.out.size))
          have HS7 := Lib.hid (show ∀ u : World, Below W7.heap.size W7 u → ((loadVar 3 ⟨w3.heap.size, 0, none⟩).run Tryd.prog u = .ok (.int .i64 (n : Int)) u ∧ (loadVar 3 ⟨w3.heap.size, 1, none⟩).run Tryd.prog u = .ok (.int .i64 (i : Int)) u ∧ (loadVar 22 ⟨w3.heap.size, 2, none⟩).run Tryd.prog u = .ok (.slice (some ⟨b1, o1, none⟩) d c1) u) from fun u hu => (HS4.out _ (HT7.out _ hu)).1)
          have HLL := Lib.hid (show (0 + d) * 32 ≤ 140737488355328 by omega)
          have hb0 := fun u => run_build0 u
          go_wp2_with fail
          go_cut [9] from 59 to 67 (fun x9 wx => ∃ g9 cp gr, x9 = .pointer (some ⟨g9, 0, none⟩) ∧ Hid (wx.heap[g9]? = some (.cells #[.int .i64 (n : Int), .int .i64 (i : Int), .slice (some ⟨gr, 0, none⟩) d cp] 41 (0, 0)) ∧ Kd.R kH 25 wx W7.heap.size (fun _ => True) (.slice (some ⟨gr, 0, none⟩) d cp) ys ∧ Below W7.heap.size W7 wx))
          case first =>
            have HBD7 := Lib.hid (below_drew (Below.refl W7.heap.size W7))
            have hHeld := HS7.out _ HBD7.out
            refine wp_region_held (S := fun u => ((loadVar 3 ⟨w3.heap.size, 0, none⟩).run Tryd.prog u = .ok (.int .i64 (n : Int)) u ∧ (loadVar 3 ⟨w3.heap.size, 1, none⟩).run Tryd.prog u = .ok (.int .i64 (i : Int)) u ∧ (loadVar 22 ⟨w3.heap.size, 2, none⟩).run Tryd.prog u = .ok (.slice (some ⟨b1, o1, none⟩) d c1) u)) (by kernel_rfl) ?_
            change wpAnyH _ _ _ _ _ _ _ _ (World.drew _)
            refine wpAnyH_take (i := 0) (oi := ({ dst := some 59, op := Op.fieldAddr 41 (Operand.tmp 7) 0, type := 0, pos := "law.go:93", after := #[], guard := none } : Oper)) (v := .pointer (some ⟨w3.heap.size, 0, none⟩)) rfl (by kernel_rfl) (by kernel_rfl) (by kernel_rfl) (fun _ _ _ h => h) (Or.inl ⟨by rfl, fun w hSw => by go_simp⟩) hHeld ?_
            simp only [Act.put, List.setIfInBounds_toArray, List.set_cons_zero, List.set_cons_succ]
            refine wpAnyH_take (i := 1) (oi := ({ dst := some 60, op := Op.load 3 (Operand.tmp 59), type := 3, pos := "law.go:93", after := #[{ on := 0, ground := Ground.data }], guard := none } : Oper)) (v := .int .i64 (n : Int)) rfl (by kernel_rfl) (by kernel_rfl) (by kernel_rfl) (fun _ _ _ h => h) (Or.inl ⟨by rfl, fun w hSw => by obtain ⟨z0, z1, z2⟩ := hSw; go_simp⟩) hHeld ?_
            simp only [Act.put, List.setIfInBounds_toArray, List.set_cons_zero, List.set_cons_succ]
            refine wpAnyH_take (i := 2) (oi := ({ dst := some 61, op := Op.fieldAddr 41 (Operand.tmp 7) 1, type := 0, pos := "law.go:93", after := #[], guard := none } : Oper)) (v := .pointer (some ⟨w3.heap.size, 1, none⟩)) rfl (by kernel_rfl) (by kernel_rfl) (by kernel_rfl) (fun _ _ _ h => h) (Or.inl ⟨by rfl, fun w hSw => by go_simp⟩) hHeld ?_
            simp only [Act.put, List.setIfInBounds_toArray, List.set_cons_zero, List.set_cons_succ]
            refine wpAnyH_take (i := 3) (oi := ({ dst := some 62, op := Op.load 3 (Operand.tmp 61), type := 3, pos := "law.go:93", after := #[{ on := 2, ground := Ground.data }], guard := none } : Oper)) (v := .int .i64 (i : Int)) rfl (by kernel_rfl) (by kernel_rfl) (by kernel_rfl) (fun _ _ _ h => h) (Or.inl ⟨by rfl, fun w hSw => by obtain ⟨z0, z1, z2⟩ := hSw; go_simp⟩) hHeld ?_
            simp only [Act.put, List.setIfInBounds_toArray, List.set_cons_zero, List.set_cons_succ]
            refine wpAnyH_take (i := 5) (oi := ({ dst := some 64, op := Op.fieldAddr 41 (Operand.tmp 7) 2, type := 0, pos := "law.go:93", after := #[], guard := none } : Oper)) (v := .pointer (some ⟨w3.heap.size, 2, none⟩)) rfl (by kernel_rfl) (by kernel_rfl) (by kernel_rfl) (fun _ _ _ h => h) (Or.inl ⟨by rfl, fun w hSw => by go_simp⟩) hHeld ?_
            simp only [Act.put, List.setIfInBounds_toArray, List.set_cons_zero, List.set_cons_succ]
            refine wpAnyH_take (i := 6) (oi := ({ dst := some 65, op := Op.load 22 (Operand.tmp 64), type := 22, pos := "law.go:93", after := #[{ on := 5, ground := Ground.data }], guard := none } : Oper)) (v := .slice (some ⟨b1, o1, none⟩) d c1) rfl (by kernel_rfl) (by kernel_rfl) (by kernel_rfl) (fun _ _ _ h => h) (Or.inl ⟨by rfl, fun w hSw => by obtain ⟨z0, z1, z2⟩ := hSw; go_simp⟩) hHeld ?_
            simp only [Act.put, List.setIfInBounds_toArray, List.set_cons_zero, List.set_cons_succ]
            have HBE := Lib.hid (below_drew (below_alloc (Below.refl W7.heap.size W7) (.cells #[] 25)))
            have HRE := Lib.hid (show Kd.R kH 25 (W7.alloc (.cells #[] 25)).drew W7.heap.size (fun _ => True) (.slice (some ⟨W7.heap.size, 0, none⟩) 0 0) [] from Kd.R_drew (empty_row W7 W7 (Nat.le_refl _)))
            have HBX := Lib.hid (below_drew (below_alloc (below_alloc (Below.refl W7.heap.size W7) (.cells #[] 25)) (.cells #[.int .i64 0, .int .i64 0, .slice none 0 0] 41)))
            have HBY := Lib.hid (below_drew (below_alloc (Below.refl W7.heap.size W7) (.cells #[.int .i64 0, .int .i64 0, .slice none 0 0] 41)))
            have HBZ := Lib.hid (below_drew (below_alloc (below_alloc (Below.refl W7.heap.size W7) (.cells #[.int .i64 0, .int .i64 0, .slice none 0 0] 41)) (.cells #[] 25)))
            have hsz1 : (W7.alloc (.cells #[.int .i64 0, .int .i64 0, .slice none 0 0] 41)).heap.size = W7.heap.size + 1 := Array.size_push _
            have HRZ := Lib.hid (show Kd.R kH 25 ((W7.alloc (.cells #[.int .i64 0, .int .i64 0, .slice none 0 0] 41)).alloc (.cells #[] 25)).drew W7.heap.size (fun _ => True) (.slice (some ⟨W7.heap.size + 1, 0, none⟩) 0 0) [] from by
              have h9 := empty_row W7 (W7.alloc (.cells #[.int .i64 0, .int .i64 0, .slice none 0 0] 41)) (by omega)
              rw [hsz1] at h9
              exact Kd.R_drew h9)
            clear hsz1
            refine wpAnyH_ready (rs := [4, 9]) (by kernel_rfl) (by simp) ?_
            refine AllReadyH.cons (o := ({ dst := some 63, op := Op.buildSlice 22 0 #[], type := 22, pos := "law.go:93", after := #[], guard := none } : Oper)) rfl (fun K hK => ?_) (AllReadyH.cons (o := ({ dst := some 9, op := Op.alloc 41, type := 0, pos := "law.go:93", after := #[], guard := none } : Oper)) rfl (fun K hK => ?_) AllReadyH.nil)
            · skip
              go_simp
              refine hK.out _ _ (HS7.out _ HBE.out) (fun hHeld => ?_)
              clear hK K
              try simp only [Act.put, List.setIfInBounds_toArray, List.set_cons_zero, List.set_cons_succ]
              refine wpAnyH_ready (rs := [7, 9]) (by kernel_rfl) (by simp) ?_
              refine AllReadyH.cons (o := ({ dst := some 66, op := Op.call { callee := Callee.builtin Builtin.append, args := #[Operand.tmp 63, Operand.tmp 65], argTypes := #[22, 22] }, type := 22, pos := "law.go:93", after := #[{ on := 4, ground := Ground.data }, { on := 6, ground := Ground.data }], guard := none } : Oper)) rfl (fun K hK => ?_) (AllReadyH.cons (o := ({ dst := some 9, op := Op.alloc 41, type := 0, pos := "law.go:93", after := #[], guard := none } : Oper)) rfl (fun K hK => ?_) AllReadyH.nil)
              · skip
                refine Kd.R_append_rows_step kH (w0 := W7) W7.heap.size (by rfl) (.tmp 63) (.tmp 65) 22 25 (.agg (nums .u8 (List.replicate 32 0)).toArray) 32 (by rfl) Tryd.underlying22 infoH3 rfl (by decide) (by decide) _ [] ys (some ⟨b1, o1, none⟩) d c1 (fun _ => True) (fun _ => False) (by rfl) (by rfl) (HRE.out) (HC4.out _ (HT7.out _ (HBE.out))).1 (fun _ _ h => kH_move h) (fun _ h => h.elim) (fun _ _ => trivial) (HBE.out) (HBE.out).size HLL.out ?_
                intro v5 w5 ho hb hg hat
                obtain ⟨gr, cp, rfl⟩ := R_form9 (n := d) ho (by rw [List.nil_append]; exact HY.out.1) (by omega)
                have HR5 := Lib.hid (show Kd.R kH 25 w5 W7.heap.size (fun _ => True) (.slice (some ⟨gr, 0, none⟩) d cp) ys from by simpa using ho)
                have HB5 := Lib.hid hb
                have HG5 := Lib.hid hg
                clear ho hb hg hat
                refine hK.out _ _ (HS7.out _ HB5.out) (fun hHeld => ?_)
                clear hK K
                try simp only [Act.put, List.setIfInBounds_toArray, List.set_cons_zero, List.set_cons_succ]
                have hbu := fun u => run_build (P := Tryd.prog) u 41 #[(0, .int .i64 (n : Int)), (1, .int .i64 (i : Int)), (2, .slice (some ⟨gr, 0, none⟩) d cp)] _ (built_b9 n i (some ⟨gr, 0, none⟩) d cp)
                refine wpAnyH_take (i := 8) (oi := ({ dst := some 67, op := Op.build 41 #[(0, Operand.tmp 60), (1, Operand.tmp 62), (2, Operand.tmp 66)], type := 41, pos := "law.go:93", after := #[{ on := 1, ground := Ground.data }, { on := 3, ground := Ground.data }, { on := 7, ground := Ground.data }], guard := none } : Oper)) (v := .agg #[.int .i64 (n : Int), .int .i64 (i : Int), .slice (some ⟨gr, 0, none⟩) d cp]) rfl (by kernel_rfl) (by kernel_rfl) (by kernel_rfl) (fun _ _ _ h => h) (Or.inl ⟨by rfl, fun w hSw => by go_simp⟩) hHeld ?_
                simp only [Act.put, List.setIfInBounds_toArray, List.set_cons_zero, List.set_cons_succ]
                clear hbu
                refine wpAnyH_ready (rs := [9]) (by kernel_rfl) (by simp) ?_
                refine AllReadyH.cons (o := ({ dst := some 9, op := Op.alloc 41, type := 0, pos := "law.go:93", after := #[], guard := none } : Oper)) rfl (fun K hK => ?_) AllReadyH.nil
                go_simp
                refine hK.out _ _ (HS7.out _ (HB5.out.alloc HB5.out.size (.cells #[.int .i64 0, .int .i64 0, .slice none 0 0] 41))) (fun hHeld => ?_)
                clear hK K
                try simp only [Act.put, List.setIfInBounds_toArray, List.set_cons_zero, List.set_cons_succ]
                have HK6 := Lib.hid (heap_alloc_new w5 (.cells #[.int .i64 0, .int .i64 0, .slice none 0 0] 41))
                have HR6 := Lib.hid (Kd.R_alloc HR5.out (.cells #[.int .i64 0, .int .i64 0, .slice none 0 0] 41))
                have HB6 := Lib.hid (HB5.out.alloc HB5.out.size (.cells #[.int .i64 0, .int .i64 0, .slice none 0 0] 41))
                have HB7 := Lib.hid (below_setRow HB6.out (show W7.heap.size ≤ w5.heap.size from HB5.out.size) #[.int .i64 (n : Int), .int .i64 (i : Int), .slice (some ⟨gr, 0, none⟩) d cp])
                refine wpAnyH_ready (rs := [10]) (by kernel_rfl) (by simp) ?_
                refine AllReadyH.cons (o := ({ dst := none, op := Op.store 41 (Operand.tmp 9) (Operand.tmp 67), type := 0, pos := "law.go:93", after := #[{ on := 9, ground := Ground.data }, { on := 8, ground := Ground.data }, { on := 7, ground := Ground.chain }, { on := 0, ground := Ground.phase }, { on := 1, ground := Ground.phase }, { on := 2, ground := Ground.phase }, { on := 3, ground := Ground.phase }, { on := 4, ground := Ground.phase }, { on := 5, ground := Ground.phase }, { on := 6, ground := Ground.phase }, { on := 7, ground := Ground.phase }, { on := 8, ground := Ground.phase }, { on := 9, ground := Ground.phase }], guard := none } : Oper)) rfl (fun K hK => ?_) AllReadyH.nil
                rw [if_pos (by rfl)]
                refine wp_store_row 41 (.tmp 9) (.tmp 67) rfl (w5.heap.size) #[.int .i64 (n : Int), .int .i64 (i : Int), .slice (some ⟨gr, 0, none⟩) d cp] (by rfl) (by rfl) 41 #[.int .i64 0, .int .i64 0, .slice none 0 0] HK6.out HI9.out.2 rfl (by simp [Value.oneCell']) ?_
                refine hK.out _ _ (HS7.out _ HB7.out) (fun hHeld => ?_)
                clear hK K
                try simp only [Act.put, List.setIfInBounds_toArray, List.set_cons_zero, List.set_cons_succ]
                refine wpAnyH_done (by kernel_rfl) ?_ _
                clear hHeld
                go_wp2_with fail
                go_meet
                exact ⟨_, cp, gr, rfl, Lib.hid ⟨setRow_heap _ _ _ _ _ _ HK6.out, Kd.R_mono (Kd.R_step (Kd.R_types HR6.out HK6.out ne_ty9) (fun k hk _ => setRow_other _ _ _ _ hk.2)) (fun _ _ => trivial), HB7.out⟩⟩
              · skip
                go_simp
                refine hK.out _ _ (HS7.out _ HBX.out) (fun hHeld => ?_)
                clear hK K
                try simp only [Act.put, List.setIfInBounds_toArray, List.set_cons_zero, List.set_cons_succ]
                refine wpAnyH_ready (rs := [7]) (by kernel_rfl) (by simp) ?_
                refine AllReadyH.cons (o := ({ dst := some 66, op := Op.call { callee := Callee.builtin Builtin.append, args := #[Operand.tmp 63, Operand.tmp 65], argTypes := #[22, 22] }, type := 22, pos := "law.go:93", after := #[{ on := 4, ground := Ground.data }, { on := 6, ground := Ground.data }], guard := none } : Oper)) rfl (fun K hK => ?_) AllReadyH.nil
                refine Kd.R_append_rows_step kH (w0 := W7) W7.heap.size (by rfl) (.tmp 63) (.tmp 65) 22 25 (.agg (nums .u8 (List.replicate 32 0)).toArray) 32 (by rfl) Tryd.underlying22 infoH3 rfl (by decide) (by decide) _ [] ys (some ⟨b1, o1, none⟩) d c1 (fun _ => True) (fun _ => False) (by rfl) (by rfl) (Kd.R_drew (Kd.R_alloc (empty_row W7 W7 (Nat.le_refl _)) _)) (HC4.out _ (HT7.out _ (HBX.out))).1 (fun _ _ h => kH_move h) (fun _ h => h.elim) (fun _ _ => trivial) (HBX.out) (HBX.out).size HLL.out ?_
                intro v5 w5 ho hb hg hat
                obtain ⟨gr, cp, rfl⟩ := R_form9 (n := d) ho (by rw [List.nil_append]; exact HY.out.1) (by omega)
                have HR5 := Lib.hid (show Kd.R kH 25 w5 W7.heap.size (fun _ => True) (.slice (some ⟨gr, 0, none⟩) d cp) ys from by simpa using ho)
                have HB5 := Lib.hid hb
                have HG5 := Lib.hid hg
                clear ho hb hg hat
                refine hK.out _ _ (HS7.out _ HB5.out) (fun hHeld => ?_)
                clear hK K
                try simp only [Act.put, List.setIfInBounds_toArray, List.set_cons_zero, List.set_cons_succ]
                have hbu := fun u => run_build (P := Tryd.prog) u 41 #[(0, .int .i64 (n : Int)), (1, .int .i64 (i : Int)), (2, .slice (some ⟨gr, 0, none⟩) d cp)] _ (built_b9 n i (some ⟨gr, 0, none⟩) d cp)
                refine wpAnyH_take (i := 8) (oi := ({ dst := some 67, op := Op.build 41 #[(0, Operand.tmp 60), (1, Operand.tmp 62), (2, Operand.tmp 66)], type := 41, pos := "law.go:93", after := #[{ on := 1, ground := Ground.data }, { on := 3, ground := Ground.data }, { on := 7, ground := Ground.data }], guard := none } : Oper)) (v := .agg #[.int .i64 (n : Int), .int .i64 (i : Int), .slice (some ⟨gr, 0, none⟩) d cp]) rfl (by kernel_rfl) (by kernel_rfl) (by kernel_rfl) (fun _ _ _ h => h) (Or.inl ⟨by rfl, fun w hSw => by go_simp⟩) hHeld ?_
                simp only [Act.put, List.setIfInBounds_toArray, List.set_cons_zero, List.set_cons_succ]
                clear hbu
                have HK6 := Lib.hid (grown_blk HG5.out (heap_alloc2_new W7 _ _) (ne_own (Nat.succ_ne_self _)))
                have HR6 := Lib.hid (HR5.out)
                have HB6 := Lib.hid (HB5.out)
                have HB7 := Lib.hid (below_setRow HB6.out (show W7.heap.size ≤ W7.heap.size + 1 from Nat.le_succ _) #[.int .i64 (n : Int), .int .i64 (i : Int), .slice (some ⟨gr, 0, none⟩) d cp])
                refine wpAnyH_ready (rs := [10]) (by kernel_rfl) (by simp) ?_
                refine AllReadyH.cons (o := ({ dst := none, op := Op.store 41 (Operand.tmp 9) (Operand.tmp 67), type := 0, pos := "law.go:93", after := #[{ on := 9, ground := Ground.data }, { on := 8, ground := Ground.data }, { on := 7, ground := Ground.chain }, { on := 0, ground := Ground.phase }, { on := 1, ground := Ground.phase }, { on := 2, ground := Ground.phase }, { on := 3, ground := Ground.phase }, { on := 4, ground := Ground.phase }, { on := 5, ground := Ground.phase }, { on := 6, ground := Ground.phase }, { on := 7, ground := Ground.phase }, { on := 8, ground := Ground.phase }, { on := 9, ground := Ground.phase }], guard := none } : Oper)) rfl (fun K hK => ?_) AllReadyH.nil
                rw [if_pos (by rfl)]
                refine wp_store_row 41 (.tmp 9) (.tmp 67) rfl (W7.heap.size + 1) #[.int .i64 (n : Int), .int .i64 (i : Int), .slice (some ⟨gr, 0, none⟩) d cp] (by rfl) (by rfl) 41 #[.int .i64 0, .int .i64 0, .slice none 0 0] HK6.out HI9.out.2 rfl (by simp [Value.oneCell']) ?_
                refine hK.out _ _ (HS7.out _ HB7.out) (fun hHeld => ?_)
                clear hK K
                try simp only [Act.put, List.setIfInBounds_toArray, List.set_cons_zero, List.set_cons_succ]
                refine wpAnyH_done (by kernel_rfl) ?_ _
                clear hHeld
                go_wp2_with fail
                go_meet
                exact ⟨_, cp, gr, rfl, Lib.hid ⟨setRow_heap _ _ _ _ _ _ HK6.out, Kd.R_mono (Kd.R_step (Kd.R_types HR6.out HK6.out ne_ty9) (fun k hk _ => setRow_other _ _ _ _ hk.2)) (fun _ _ => trivial), HB7.out⟩⟩
            · skip
              go_simp
              refine hK.out _ _ (HS7.out _ HBY.out) (fun hHeld => ?_)
              clear hK K
              try simp only [Act.put, List.setIfInBounds_toArray, List.set_cons_zero, List.set_cons_succ]
              refine wpAnyH_ready (rs := [4]) (by kernel_rfl) (by simp) ?_
              refine AllReadyH.cons (o := ({ dst := some 63, op := Op.buildSlice 22 0 #[], type := 22, pos := "law.go:93", after := #[], guard := none } : Oper)) rfl (fun K hK => ?_) AllReadyH.nil
              go_simp
              refine hK.out _ _ (HS7.out _ HBZ.out) (fun hHeld => ?_)
              clear hK K
              try simp only [Act.put, List.setIfInBounds_toArray, List.set_cons_zero, List.set_cons_succ]
              refine wpAnyH_ready (rs := [7]) (by kernel_rfl) (by simp) ?_
              refine AllReadyH.cons (o := ({ dst := some 66, op := Op.call { callee := Callee.builtin Builtin.append, args := #[Operand.tmp 63, Operand.tmp 65], argTypes := #[22, 22] }, type := 22, pos := "law.go:93", after := #[{ on := 4, ground := Ground.data }, { on := 6, ground := Ground.data }], guard := none } : Oper)) rfl (fun K hK => ?_) AllReadyH.nil
              refine Kd.R_append_rows_step kH (w0 := W7) W7.heap.size (by rfl) (.tmp 63) (.tmp 65) 22 25 (.agg (nums .u8 (List.replicate 32 0)).toArray) 32 (by rfl) Tryd.underlying22 infoH3 rfl (by decide) (by decide) _ [] ys (some ⟨b1, o1, none⟩) d c1 (fun _ => True) (fun _ => False) (by rfl) (by rfl) (HRZ.out) (HC4.out _ (HT7.out _ (HBZ.out))).1 (fun _ _ h => kH_move h) (fun _ h => h.elim) (fun _ _ => trivial) (HBZ.out) (HBZ.out).size HLL.out ?_
              intro v5 w5 ho hb hg hat
              obtain ⟨gr, cp, rfl⟩ := R_form9 (n := d) ho (by rw [List.nil_append]; exact HY.out.1) (by omega)
              have HR5 := Lib.hid (show Kd.R kH 25 w5 W7.heap.size (fun _ => True) (.slice (some ⟨gr, 0, none⟩) d cp) ys from by simpa using ho)
              have HB5 := Lib.hid hb
              have HG5 := Lib.hid hg
              clear ho hb hg hat
              refine hK.out _ _ (HS7.out _ HB5.out) (fun hHeld => ?_)
              clear hK K
              try simp only [Act.put, List.setIfInBounds_toArray, List.set_cons_zero, List.set_cons_succ]
              have hbu := fun u => run_build (P := Tryd.prog) u 41 #[(0, .int .i64 (n : Int)), (1, .int .i64 (i : Int)), (2, .slice (some ⟨gr, 0, none⟩) d cp)] _ (built_b9 n i (some ⟨gr, 0, none⟩) d cp)
              refine wpAnyH_take (i := 8) (oi := ({ dst := some 67, op := Op.build 41 #[(0, Operand.tmp 60), (1, Operand.tmp 62), (2, Operand.tmp 66)], type := 41, pos := "law.go:93", after := #[{ on := 1, ground := Ground.data }, { on := 3, ground := Ground.data }, { on := 7, ground := Ground.data }], guard := none } : Oper)) (v := .agg #[.int .i64 (n : Int), .int .i64 (i : Int), .slice (some ⟨gr, 0, none⟩) d cp]) rfl (by kernel_rfl) (by kernel_rfl) (by kernel_rfl) (fun _ _ _ h => h) (Or.inl ⟨by rfl, fun w hSw => by go_simp⟩) hHeld ?_
              simp only [Act.put, List.setIfInBounds_toArray, List.set_cons_zero, List.set_cons_succ]
              clear hbu
              have HK6 := Lib.hid (grown_blk HG5.out (heap_alloc2_old W7 _ _) (ne_own (Nat.ne_of_lt (Nat.lt_succ_self _))))
              have HR6 := Lib.hid (HR5.out)
              have HB6 := Lib.hid (HB5.out)
              have HB7 := Lib.hid (below_setRow HB6.out (show W7.heap.size ≤ W7.heap.size from Nat.le_refl _) #[.int .i64 (n : Int), .int .i64 (i : Int), .slice (some ⟨gr, 0, none⟩) d cp])
              refine wpAnyH_ready (rs := [10]) (by kernel_rfl) (by simp) ?_
              refine AllReadyH.cons (o := ({ dst := none, op := Op.store 41 (Operand.tmp 9) (Operand.tmp 67), type := 0, pos := "law.go:93", after := #[{ on := 9, ground := Ground.data }, { on := 8, ground := Ground.data }, { on := 7, ground := Ground.chain }, { on := 0, ground := Ground.phase }, { on := 1, ground := Ground.phase }, { on := 2, ground := Ground.phase }, { on := 3, ground := Ground.phase }, { on := 4, ground := Ground.phase }, { on := 5, ground := Ground.phase }, { on := 6, ground := Ground.phase }, { on := 7, ground := Ground.phase }, { on := 8, ground := Ground.phase }, { on := 9, ground := Ground.phase }], guard := none } : Oper)) rfl (fun K hK => ?_) AllReadyH.nil
              rw [if_pos (by rfl)]
              refine wp_store_row 41 (.tmp 9) (.tmp 67) rfl (W7.heap.size) #[.int .i64 (n : Int), .int .i64 (i : Int), .slice (some ⟨gr, 0, none⟩) d cp] (by rfl) (by rfl) 41 #[.int .i64 0, .int .i64 0, .slice none 0 0] HK6.out HI9.out.2 rfl (by simp [Value.oneCell']) ?_
              refine hK.out _ _ (HS7.out _ HB7.out) (fun hHeld => ?_)
              clear hK K
              try simp only [Act.put, List.setIfInBounds_toArray, List.set_cons_zero, List.set_cons_succ]
              refine wpAnyH_done (by kernel_rfl) ?_ _
              clear hHeld
              go_wp2_with fail
              go_meet
              exact ⟨_, cp, gr, rfl, Lib.hid ⟨setRow_heap _ _ _ _ _ _ HK6.out, Kd.R_mono (Kd.R_step (Kd.R_types HR6.out HK6.out ne_ty9) (fun k hk _ => setRow_other _ _ _ _ hk.2)) (fun _ _ => trivial), HB7.out⟩⟩
          case rest =>
            obtain ⟨g9, cp, gr, rfl, HG⟩ := hcut
            generalize wc = W9 at *
            have hld9 := run_load_hs W9 ⟨g9, 2, none⟩ _ ((blk_cell HG.out.1 2).trans rfl)
            have HGN := Lib.hid (show some g9 ≠ (Value.slice (some ⟨gr, 0, none⟩) d cp).ownBlock from Kd.R_ne HG.out.2.1 HG.out.1 (by decide))
            have HK6 := Lib.hid (HC4.out _ (HT7.out _ HG.out.2.2)).2.2
            obtain ⟨hcl, hcc⟩ := R_cells9 HG.out.2.1 (show j < ys.length by rw [HY.out.1]; exact hjd)
            have HCL := Lib.hid hcl
            have HCC := Lib.hid hcc
            have HSMM := Lib.hid (kH_put W9 W7.heap.size (fun _ => False) hcl HHH.out.1.1 HHH.out.2)
            have HF32 := Lib.hid (show 0 + HC.length ≤ 32 from by rw [HHL.out.1]; omega)
            clear hcl hcc
            go_wp2_with (first
              | ((with_reducible show wpList _ _ _ (Oper.mk _ (Op.load _ (.tmp 6)) _ _ _ _ :: _) _ _); (go_loud (refine wpList_load_row rfl 25 (.tmp 6) rfl W0.heap.size rfl 25 HC.toArray (0, 0) _ HK6.out hu rfl HIH.out.1 ?_)))
              | ((with_reducible show wpList _ _ _ (Oper.mk _ (Op.store _ (.tmp 72) _) _ _ _ _ :: _) _ _); (go_loud (refine Kd.R_store kH (w0 := W7) W7.heap.size rfl rfl 25 (.tmp 72) (.tmp 71) rfl 25 (g := gr) (n := d) (cap := cp) (j : Int) 0 ys h (.agg HC.toArray) HC (nums .u8 (rdH ys j)) (fun _ => True) (fun _ => False) rfl (by rfl) rfl rfl hiH HHL.out.2 HG.out.2.1 hj0 hj1 HCL.out HCC.out HF32.out HSMM.out (fun _ h => h.elim) HG.out.2.2 ?_)); (intro wa ho hb hg; have HRA := Lib.hid ho; have HBA := Lib.hid hb; have HGA := Lib.hid hg; clear ho hb hg)))
            rw [Int.toNat_natCast] at HRA
            obtain ⟨zs, hzs⟩ : ∃ zs, ys.set j h = zs := ⟨_, rfl⟩
            have hzl : d = zs.length := by rw [← hzs, List.length_set]; exact HY.out.1.symm
            have hzH : Hs zs := by rw [← hzs]; exact set_Hs9 HY.out.2 HHH.out.1
            have hzn : zs ≠ ys := by rw [← hzs]; exact set_ne9 (by rw [HY.out.1]; exact hjd) hne
            rw [hzs] at HRA
            have HZZ := Lib.hid (And.intro hzl (And.intro hzH hzn))
            have HKA := Lib.hid (grown_blk HGA.out HG.out.1 HGN.out)
            have HCA := Lib.hid (And.intro (Kd.R_reads' HRA.out).2.1 (show Kd.C kH wa (some ⟨gr, 0, none⟩) d zs from by have h9 := (Kd.R_reads' HRA.out).2.2; rw [← hzl] at h9; exact h9))
            have HSB := Lib.hid (show ∀ u : World, Below wa.heap.size wa u → (loadVar 41 ⟨w3.heap.size, 0, none⟩).run Tryd.prog u = .ok (.agg #[.int .i64 (n : Int), .int .i64 (i : Int), .slice (some ⟨b1, o1, none⟩) d c1]) u ∧ (loadVar 41 ⟨g9, 0, none⟩).run Tryd.prog u = .ok (.agg #[.int .i64 (n : Int), .int .i64 (i : Int), .slice (some ⟨gr, 0, none⟩) d cp]) u ∧ u.rangeAt b (o + i * 32) P from fun u hu => by
              have hB := HBA.out.trans (Below.mono hu HBA.out.size)
              exact ⟨(HS4.out _ (HT7.out _ hB)).2.2.2, run_loadVar_row (P := Tryd.prog) u g9 41 41 _ (0, 0) _ ((hu.block _ (blk_lt HKA.out)).trans HKA.out) HI9.out.1 rfl HI9.out.2, (HS4.out _ (HT7.out _ hB)).2.2.1⟩)
            have HCB := Lib.hid (show ∀ u : World, Below wa.heap.size wa u → Kd.C kH u (some ⟨b1, o1, none⟩) d ys ∧ Kd.C kH u (some ⟨gr, 0, none⟩) d zs ∧ Below w.heap.size w u from fun u hu => by
              have hB := HT7.out _ (HBA.out.trans (Below.mono hu HBA.out.size))
              exact ⟨(HC4.out _ hB).1, Kd.C_below HCA.out.2 hu, (HC4.out _ hB).2.1⟩)
            have HTA := Lib.hid (show ∀ u u' : World, Below wa.heap.size wa u → Below u.heap.size u u' → Below wa.heap.size wa u' from fun u u' hu hu' => hu.trans (Below.mono hu' hu.size))
            clear hzs hzl hzH hzn hne hld9
            obtain ⟨ck, hck⟩ : ∃ x, checkP (n : Int) (i : Int) zs (rootP xs) p = x := ⟨_, rfl⟩
            have HCK2 := Lib.hid (HCK.out zs HZZ.out.1 HZZ.out.2.1)
            rw [hck] at HCK2
            have HCKE := Lib.hid hck
            clear hck
            go_wp2_with fail
            have HBD := Lib.hid (below_drew (Below.refl wa.heap.size wa))
            have hHeld := HSB.out _ HBD.out
            refine wp_region_held (S := fun u => (loadVar 41 ⟨w3.heap.size, 0, none⟩).run Tryd.prog u = .ok (.agg #[.int .i64 (n : Int), .int .i64 (i : Int), .slice (some ⟨b1, o1, none⟩) d c1]) u ∧ (loadVar 41 ⟨g9, 0, none⟩).run Tryd.prog u = .ok (.agg #[.int .i64 (n : Int), .int .i64 (i : Int), .slice (some ⟨gr, 0, none⟩) d cp]) u ∧ u.rangeAt b (o + i * 32) P) (by kernel_rfl) ?_
            change wpAnyH _ _ _ _ _ _ _ _ (World.drew _)
            refine wpAnyH_take (i := 0) (oi := ({ dst := some 73, op := Op.load 41 (Operand.tmp 9), type := 41, pos := "law.go:95", after := #[], guard := none } : Oper)) (v := .agg #[.int .i64 (n : Int), .int .i64 (i : Int), .slice (some ⟨gr, 0, none⟩) d cp]) rfl (by kernel_rfl) (by kernel_rfl) (by kernel_rfl) (fun _ _ _ h => h) (Or.inl ⟨by rfl, fun w hSw => by obtain ⟨z0, z1, z2⟩ := hSw; go_simp⟩) hHeld ?_
            simp only [Act.put, List.setIfInBounds_toArray, List.set_cons_zero, List.set_cons_succ]
            refine wpAnyH_take (i := 1) (oi := ({ dst := some 74, op := Op.move (Operand.tmp 3), type := 22, pos := "law.go:95", after := #[], guard := none } : Oper)) (v := .slice (some ⟨b, o, none⟩) n c) rfl (by kernel_rfl) (by kernel_rfl) (by kernel_rfl) (fun _ _ _ h => h) (Or.inl ⟨by rfl, fun w hSw => by go_simp⟩) hHeld ?_
            simp only [Act.put, List.setIfInBounds_toArray, List.set_cons_zero, List.set_cons_succ]
            refine wpAnyH_take (i := 3) (oi := ({ dst := some 76, op := Op.move (Operand.tmp 3), type := 22, pos := "law.go:95", after := #[], guard := none } : Oper)) (v := .slice (some ⟨b, o, none⟩) n c) rfl (by kernel_rfl) (by kernel_rfl) (by kernel_rfl) (fun _ _ _ h => h) (Or.inl ⟨by rfl, fun w hSw => by go_simp⟩) hHeld ?_
            simp only [Act.put, List.setIfInBounds_toArray, List.set_cons_zero, List.set_cons_succ]
            refine wpAnyH_take (i := 4) (oi := ({ dst := some 77, op := Op.move (Operand.tmp 4), type := 3, pos := "law.go:95", after := #[], guard := none } : Oper)) (v := .int .i64 (i : Int)) rfl (by kernel_rfl) (by kernel_rfl) (by kernel_rfl) (fun _ _ _ h => h) (Or.inl ⟨by rfl, fun w hSw => by go_simp⟩) hHeld ?_
            simp only [Act.put, List.setIfInBounds_toArray, List.set_cons_zero, List.set_cons_succ]
            refine wpAnyH_take (i := 5) (oi := ({ dst := some 78, op := Op.indexAddr 22 (Operand.tmp 76) (Operand.tmp 77), type := 0, pos := "law.go:95", after := #[{ on := 3, ground := Ground.data }, { on := 4, ground := Ground.data }], guard := none } : Oper)) (v := .pointer (some ⟨b, o + i * 32, none⟩)) rfl (by kernel_rfl) (by kernel_rfl) (by kernel_rfl) (fun _ _ _ h => h) (Or.inl ⟨by rfl, fun w hSw => by go_simp⟩) hHeld ?_
            simp only [Act.put, List.setIfInBounds_toArray, List.set_cons_zero, List.set_cons_succ]
            refine wpAnyH_take (i := 6) (oi := ({ dst := some 79, op := Op.load 25 (Operand.tmp 78), type := 25, pos := "law.go:95", after := #[{ on := 5, ground := Ground.data }], guard := none } : Oper)) (v := .agg P.toArray) rfl (by kernel_rfl) (by kernel_rfl) (by kernel_rfl) (fun _ _ _ h => h) (yieldsIf_load_mid (by rfl) _ _ rfl b (o + i * 32) rfl P _ (fun _ h => h.2.2) hu rfl hi1) hHeld ?_
            simp only [Act.put, List.setIfInBounds_toArray, List.set_cons_zero, List.set_cons_succ]
            refine wpAnyH_ready (rs := [2]) (by kernel_rfl) (by simp) ?_
            refine AllReadyH.cons (o := ({ dst := some 75, op := Op.call { callee := Callee.value (Operand.func 20), args := #[Operand.tmp 74], argTypes := #[22] }, type := 25, pos := "law.go:95", after := #[{ on := 1, ground := Ground.data }], guard := none } : Oper)) rfl (fun K hK => ?_) AllReadyH.nil
            go_simp
            (with_reducible refine (HRO.out _ (HCB.out _ HBD.out).2.2).mono ?_)
            rintro e wb ⟨rfl, hbb⟩
            have HBB := Lib.hid (HTA.out _ _ HBD.out hbb)
            clear hbb
            go_wp2_with fail
            refine hK.out _ _ (HSB.out _ HBB.out) (fun hHeld => ?_)
            clear hK K
            try simp only [Act.put, List.setIfInBounds_toArray, List.set_cons_zero, List.set_cons_succ]
            refine wpAnyH_ready (rs := [7]) (by kernel_rfl) (by simp) ?_
            refine AllReadyH.cons (o := ({ dst := some 80, op := Op.call { callee := Callee.value (Operand.func 33), args := #[Operand.tmp 73, Operand.tmp 75, Operand.tmp 79], argTypes := #[41, 25, 25] }, type := 42, pos := "law.go:95", after := #[{ on := 0, ground := Ground.data }, { on := 2, ground := Ground.data }, { on := 6, ground := Ground.data }, { on := 2, ground := Ground.chain }], guard := none } : Oper)) rfl (fun K hK => ?_) AllReadyH.nil
            go_simp
            (with_reducible refine (HCK2.out _ cp _ (HCB.out _ HBB.out).2.1 HCA.out.1 (HCB.out _ HBB.out).2.2).mono ?_)
            rintro e wd ⟨rfl, hbd⟩
            have HBE := Lib.hid (HTA.out _ _ HBB.out hbd)
            clear hbd
            go_wp2_with fail
            refine hK.out _ _ (HSB.out _ HBE.out) (fun hHeld => ?_)
            clear hK K
            try simp only [Act.put, List.setIfInBounds_toArray, List.set_cons_zero, List.set_cons_succ]
            by_cases hc0 : ck = 0
            · subst hc0
              have hmt := HBT.out zs HZZ.out.1.symm HZZ.out.2.2 HCKE.out
              refine wpAnyH_take (i := 8) (oi := ({ dst := some 81, op := Op.binOp BinOp.neq 42 (Operand.tmp 80) (Operand.const (Value.int IntKind.i64 0)) 42, type := 4, pos := "law.go:95", after := #[{ on := 7, ground := Ground.data }], guard := none } : Oper)) (v := .bool false) rfl (by kernel_rfl) (by kernel_rfl) (by kernel_rfl) (fun _ _ _ h => h) (Or.inl ⟨by rfl, fun w hSw => by go_simp⟩) hHeld ?_
              simp only [Act.put, List.setIfInBounds_toArray, List.set_cons_zero, List.set_cons_succ]
              refine wpAnyH_done (by kernel_rfl) ?_ _
              clear hHeld
              go_wp2_with fail
              have HRE1 := Lib.hid (HRE.out ys HY.out.1.symm HY.out.2)
              have HRE2 := Lib.hid (HRE.out zs HZZ.out.1 HZZ.out.2.1)
              have HME2 := Lib.hid (HME.out zs HZZ.out.1 HZZ.out.2.1)
              rw [hmt] at HME2
              have HBF := Lib.hid (below_drew HBE.out)
              have hHeld := HSB.out _ HBF.out
              refine wp_region_held (S := fun u => (loadVar 41 ⟨w3.heap.size, 0, none⟩).run Tryd.prog u = .ok (.agg #[.int .i64 (n : Int), .int .i64 (i : Int), .slice (some ⟨b1, o1, none⟩) d c1]) u ∧ (loadVar 41 ⟨g9, 0, none⟩).run Tryd.prog u = .ok (.agg #[.int .i64 (n : Int), .int .i64 (i : Int), .slice (some ⟨gr, 0, none⟩) d cp]) u ∧ u.rangeAt b (o + i * 32) P) (by kernel_rfl) ?_
              change wpAnyH _ _ _ _ _ _ _ _ (World.drew _)
              refine wpAnyH_take (i := 0) (oi := ({ dst := some 83, op := Op.load 41 (Operand.tmp 7), type := 41, pos := "law.go:98", after := #[], guard := none } : Oper)) (v := .agg #[.int .i64 (n : Int), .int .i64 (i : Int), .slice (some ⟨b1, o1, none⟩) d c1]) rfl (by kernel_rfl) (by kernel_rfl) (by kernel_rfl) (fun _ _ _ h => h) (Or.inl ⟨by rfl, fun w hSw => by obtain ⟨z0, z1, z2⟩ := hSw; go_simp⟩) hHeld ?_
              simp only [Act.put, List.setIfInBounds_toArray, List.set_cons_zero, List.set_cons_succ]
              refine wpAnyH_take (i := 2) (oi := ({ dst := some 85, op := Op.load 41 (Operand.tmp 9), type := 41, pos := "law.go:98", after := #[], guard := none } : Oper)) (v := .agg #[.int .i64 (n : Int), .int .i64 (i : Int), .slice (some ⟨gr, 0, none⟩) d cp]) rfl (by kernel_rfl) (by kernel_rfl) (by kernel_rfl) (fun _ _ _ h => h) (Or.inl ⟨by rfl, fun w hSw => by obtain ⟨z0, z1, z2⟩ := hSw; go_simp⟩) hHeld ?_
              simp only [Act.put, List.setIfInBounds_toArray, List.set_cons_zero, List.set_cons_succ]
              refine wpAnyH_take (i := 4) (oi := ({ dst := some 87, op := Op.move (Operand.tmp 3), type := 22, pos := "law.go:98", after := #[], guard := none } : Oper)) (v := .slice (some ⟨b, o, none⟩) n c) rfl (by kernel_rfl) (by kernel_rfl) (by kernel_rfl) (fun _ _ _ h => h) (Or.inl ⟨by rfl, fun w hSw => by go_simp⟩) hHeld ?_
              simp only [Act.put, List.setIfInBounds_toArray, List.set_cons_zero, List.set_cons_succ]
              refine wpAnyH_take (i := 5) (oi := ({ dst := some 88, op := Op.move (Operand.tmp 4), type := 3, pos := "law.go:98", after := #[], guard := none } : Oper)) (v := .int .i64 (i : Int)) rfl (by kernel_rfl) (by kernel_rfl) (by kernel_rfl) (fun _ _ _ h => h) (Or.inl ⟨by rfl, fun w hSw => by go_simp⟩) hHeld ?_
              simp only [Act.put, List.setIfInBounds_toArray, List.set_cons_zero, List.set_cons_succ]
              refine wpAnyH_take (i := 6) (oi := ({ dst := some 89, op := Op.indexAddr 22 (Operand.tmp 87) (Operand.tmp 88), type := 0, pos := "law.go:98", after := #[{ on := 4, ground := Ground.data }, { on := 5, ground := Ground.data }], guard := none } : Oper)) (v := .pointer (some ⟨b, o + i * 32, none⟩)) rfl (by kernel_rfl) (by kernel_rfl) (by kernel_rfl) (fun _ _ _ h => h) (Or.inl ⟨by rfl, fun w hSw => by go_simp⟩) hHeld ?_
              simp only [Act.put, List.setIfInBounds_toArray, List.set_cons_zero, List.set_cons_succ]
              refine wpAnyH_take (i := 7) (oi := ({ dst := some 90, op := Op.load 25 (Operand.tmp 89), type := 25, pos := "law.go:98", after := #[{ on := 6, ground := Ground.data }], guard := none } : Oper)) (v := .agg P.toArray) rfl (by kernel_rfl) (by kernel_rfl) (by kernel_rfl) (fun _ _ _ h => h) (yieldsIf_load_mid (by rfl) _ _ rfl b (o + i * 32) rfl P _ (fun _ h => h.2.2) hu rfl hi1) hHeld ?_
              simp only [Act.put, List.setIfInBounds_toArray, List.set_cons_zero, List.set_cons_succ]
              refine wpAnyH_ready (rs := [1]) (by kernel_rfl) (by simp) ?_
              refine AllReadyH.cons (o := ({ dst := some 84, op := Op.call { callee := Callee.value (Operand.func 36), args := #[Operand.tmp 83], argTypes := #[41] }, type := 46, pos := "law.go:98", after := #[{ on := 0, ground := Ground.data }], guard := none } : Oper)) rfl (fun K hK => ?_) AllReadyH.nil
              go_simp
              (with_reducible refine (HRE1.out _ c1 _ (HCB.out _ HBF.out).1 HC1.out).mono ?_)
              rintro e we ⟨A2, c2, rfl, hc2, hC2, hbe⟩
              have HBG := Lib.hid (HTA.out _ _ HBF.out hbe)
              have HX2 := Lib.hid hC2
              clear hc2 hC2 hbe
              go_wp2_with fail
              refine hK.out _ _ (HSB.out _ HBG.out) (fun hHeld => ?_)
              clear hK K
              try simp only [Act.put, List.setIfInBounds_toArray, List.set_cons_zero, List.set_cons_succ]
              refine wpAnyH_ready (rs := [3]) (by kernel_rfl) (by simp) ?_
              refine AllReadyH.cons (o := ({ dst := some 86, op := Op.call { callee := Callee.value (Operand.func 36), args := #[Operand.tmp 85], argTypes := #[41] }, type := 46, pos := "law.go:98", after := #[{ on := 2, ground := Ground.data }, { on := 1, ground := Ground.chain }], guard := none } : Oper)) rfl (fun K hK => ?_) AllReadyH.nil
              go_simp
              (with_reducible refine (HRE2.out _ cp _ (HCB.out _ HBG.out).2.1 HCA.out.1).mono ?_)
              rintro e wf ⟨A3, c3, rfl, hc3, hC3, hbf⟩
              have HBH := Lib.hid (HTA.out _ _ HBG.out hbf)
              have HX3 := Lib.hid hC3
              have HX2b := Lib.hid (Kd.C_below HX2.out hbf)
              clear hc3 hC3 hbf
              go_wp2_with fail
              refine hK.out _ _ (HSB.out _ HBH.out) (fun hHeld => ?_)
              clear hK K
              try simp only [Act.put, List.setIfInBounds_toArray, List.set_cons_zero, List.set_cons_succ]
              refine wpAnyH_ready (rs := [8]) (by kernel_rfl) (by simp) ?_
              refine AllReadyH.cons (o := ({ dst := some 91, op := Op.call { callee := Callee.value (Operand.func 39), args := #[Operand.tmp 84, Operand.tmp 86, Operand.tmp 90], argTypes := #[46, 46, 25] }, type := 4, pos := "law.go:98", after := #[{ on := 1, ground := Ground.data }, { on := 3, ground := Ground.data }, { on := 7, ground := Ground.data }, { on := 3, ground := Ground.chain }], guard := none } : Oper)) rfl (fun K hK => ?_) AllReadyH.nil
              go_simp
              (with_reducible refine (HME2.out A2 A3 c2 c3 _ HX2b.out HX3.out).mono ?_)
              rintro e wg ⟨rfl, hbg⟩
              have HBI := Lib.hid (HTA.out _ _ HBH.out hbg)
              clear hbg
              go_wp2_with fail
              refine hK.out _ _ (HSB.out _ HBI.out) (fun hHeld => ?_)
              clear hK K
              try simp only [Act.put, List.setIfInBounds_toArray, List.set_cons_zero, List.set_cons_succ]
              refine wpAnyH_take (i := 9) (oi := ({ dst := some 92, op := Op.move (Operand.tmp 91), type := 4, pos := "law.go:98", after := #[{ on := 8, ground := Ground.data }, { on := 8, ground := Ground.chain }], guard := none } : Oper)) (v := .bool true) rfl (by kernel_rfl) (by kernel_rfl) (by kernel_rfl) (fun _ _ _ h => h) (Or.inl ⟨by rfl, fun w hSw => by go_simp⟩) hHeld ?_
              simp only [Act.put, List.setIfInBounds_toArray, List.set_cons_zero, List.set_cons_succ]
              refine wpAnyH_ready (rs := [10]) (by kernel_rfl) (by simp) ?_
              refine AllReadyH.cons (o := ({ dst := some 93, op := Op.call { callee := Callee.value (Operand.func 29), args := #[], argTypes := #[] }, type := 4, pos := "law.go:98", after := #[{ on := 9, ground := Ground.chain }, { on := 9, ground := Ground.guard }], guard := some (9, true) } : Oper)) rfl (fun K hK => ?_) AllReadyH.nil
              go_simp
              (with_reducible refine (HAW.out _ (HCB.out _ HBI.out).2.2).mono ?_)
              rintro e wh ⟨rfl, hbh⟩
              have HBJ := Lib.hid (HTA.out _ _ HBI.out hbh)
              clear hbh
              go_wp2_with fail
              refine hK.out _ _ (HSB.out _ HBJ.out) (fun hHeld => ?_)
              clear hK K
              try simp only [Act.put, List.setIfInBounds_toArray, List.set_cons_zero, List.set_cons_succ]
              refine wpAnyH_take (i := 11) (oi := ({ dst := some 94, op := Op.pick (Operand.tmp 92) (Operand.tmp 93) (Operand.const (Value.bool false)), type := 4, pos := "law.go:98", after := #[{ on := 9, ground := Ground.data }, { on := 10, ground := Ground.data }], guard := none } : Oper)) (v := .bool true) rfl (by kernel_rfl) (by kernel_rfl) (by kernel_rfl) (fun _ _ _ h => h) (Or.inl ⟨by rfl, fun w hSw => by go_simp⟩) hHeld ?_
              simp only [Act.put, List.setIfInBounds_toArray, List.set_cons_zero, List.set_cons_succ]
              refine wpAnyH_take (i := 12) (oi := ({ dst := some 2, op := Op.assign (Operand.tmp 94), type := 4, pos := "law.go:98", after := #[{ on := 11, ground := Ground.data }, { on := 10, ground := Ground.chain }, { on := 0, ground := Ground.phase }, { on := 1, ground := Ground.phase }, { on := 2, ground := Ground.phase }, { on := 3, ground := Ground.phase }, { on := 4, ground := Ground.phase }, { on := 5, ground := Ground.phase }, { on := 6, ground := Ground.phase }, { on := 7, ground := Ground.phase }, { on := 8, ground := Ground.phase }, { on := 9, ground := Ground.phase }, { on := 10, ground := Ground.phase }, { on := 11, ground := Ground.phase }], guard := none } : Oper)) (v := .bool true) rfl (by kernel_rfl) (by kernel_rfl) (by kernel_rfl) (fun _ _ _ h => h) (Or.inl ⟨by rfl, fun w hSw => by go_simp⟩) hHeld ?_
              simp only [Act.put, List.setIfInBounds_toArray, List.set_cons_zero, List.set_cons_succ]
              refine wpAnyH_done (by kernel_rfl) ?_ _
              clear hHeld
              go_wp2_with fail
              go_ret
              exact ⟨rfl, (HCB.out _ HBJ.out).2.2⟩
            · skip
              refine wpAnyH_take (i := 8) (oi := ({ dst := some 81, op := Op.binOp BinOp.neq 42 (Operand.tmp 80) (Operand.const (Value.int IntKind.i64 0)) 42, type := 4, pos := "law.go:95", after := #[{ on := 7, ground := Ground.data }], guard := none } : Oper)) (v := .bool true) rfl (by kernel_rfl) (by kernel_rfl) (by kernel_rfl) (fun _ _ _ h => h) (Or.inl ⟨by rfl, fun w hSw => by go_simp⟩) hHeld ?_
              simp only [Act.put, List.setIfInBounds_toArray, List.set_cons_zero, List.set_cons_succ]
              refine wpAnyH_done (by kernel_rfl) ?_ _
              clear hHeld
              go_wp2_with fail
              refine (HAW.out _ (HCB.out _ HBE.out).2.2).mono ?_
              rintro e w9 ⟨rfl, hb9⟩
              go_wp2_with fail
              go_ret
              exact ⟨rfl, ((HCB.out _ HBE.out).2.2).trans (Below.mono hb9 ((HCB.out _ HBE.out).2.2).size)⟩
end Go.Proofs.YtlmcdkjobdcflaaDoor.Hand

