/- The law HeaderApart: its walk. -/
import Derived.Test.YtefnpecncacepaaProg
import Derived.Below
import Derived.Deep.Draws
import Derived.Deep.AppendLies
import Derived.Maps.AppendAt
import Derived.OwnWalk
import Derived.Laws.BytesArg
import Derived.Laws.MakeOwn
import Derived.Laws.OwnMore
import Derived.Deep.OwnRows
import Derived.Tactics
import Derived.Lib.ConvBytes
import Derived.Laws.Slices
import Derived.WalkKit
import Derived.KernelRfl
import Derived.RowKit3
import Derived.Deep.LoopGhost
import Derived.Deep.QuietTactic
import Derived.BigQuiet
import Derived.WideLaws
import Derived.Deep.DeepCutAuto
import Derived.Deep.CutBlock
import Derived.Deep.RegionHeld3
import Derived.Laws.Rows
import Derived.Lib.AppendStr
import Derived.ArgAppend
import Derived.Laws.IdiomCopy
import Derived.OrdersHeld
import Derived.Laws.BitsLemmas
import Derived.RowKit
import Derived.StillTailTactics
import Derived.Test.YtefnpecncacepaaWWords
import Derived.Test.YtefnpecncacepaaWLast
import Derived.Test.YtefnpecncacepaaWMore
import Derived.Lib.Hide
import Derived.Outline
import Derived.Lib.Strings
import Derived.Deep.RegionLaw
import Derived.Deep.RegionHeld3
import Derived.Deep.DrawnRows
import Derived.Laws.StructEq
import Derived.Test.YtefnpecncacepaaWEqStruct
import Derived.Test.YtefnpecncacepaaArrEq
import Derived.Test.YtefnpecncacepaaStrBytes
import Derived.Test.YtefnpecncacepaaAwake7
namespace Go.Proofs.Ytefnpecncacepaa.Hand
open Go Go.RowKit Go.Proofs.Ytefnpecncacepaa.Plain Go.Proofs.Ytefnpecncacepaa.PAll Go.Proofs.YtefnpecncacepaaW.PrintWords Go.Proofs.YtefnpecncacepaaW.PrintLast Go.Proofs.YtefnpecncacepaaW.PrintMore
set_option linter.unusedVariables false
set_option linter.unusedSimpArgs false
set_option maxRecDepth 100000
attribute [local go_sem ↓] Go.wp_at_zero Go.wp_at_succ
theorem part_hash (v : Int) (p r : List Int) (t b n : Int) (hp : p.length = 32) (hr : r.length = 32) (w : World) :
    (part 26 (hcells v p r t b n).toArray 1).run Try.prog w = .ok (.agg (nums .u8 p).toArray) w ∧ (part 26 (hcells v p r t b n).toArray 33).run Try.prog w = .ok (.agg (nums .u8 r).toArray) w := by
  obtain ⟨x0, x1, x2, x3, x4, x5, x6, x7, x8, x9, x10, x11, x12, x13, x14, x15, x16, x17, x18, x19, x20, x21, x22, x23, x24, x25, x26, x27, x28, x29, x30, x31, rfl⟩ := list32 p hp
  obtain ⟨y0, y1, y2, y3, y4, y5, y6, y7, y8, y9, y10, y11, y12, y13, y14, y15, y16, y17, y18, y19, y20, y21, y22, y23, y24, y25, y26, y27, y28, y29, y30, y31, rfl⟩ := list32 r hr
  exact ⟨by kernel_rfl, by kernel_rfl⟩
theorem part_u32 (C : Array Value) (o : Nat) (x : Int) (h : C[o]? = some (.int .u32 x)) (w : World) : (part 24 C o).run Try.prog w = .ok (.int .u32 x) w := by
  simp [part, isAgg, run_underlying Try.underlying24, h]
theorem heads_eq (v : Int) (p r : List Int) (t b n v' : Int) (p' r' : List Int) (t' b' n' : Int) (hp : p.length = 32) (hr : r.length = 32) (hp' : p'.length = 32) (hr' : r'.length = 32) (w : World) :
    (Op.equalIn 10000 28 (.agg (hcells v p r t b n).toArray) (.agg (hcells v' p' r' t' b' n').toArray)).run Try.prog w = .ok (v == v' && (p == p' && (r == r' && (t == t' && (b == b' && n == n'))))) w := by
  obtain ⟨a1, a2⟩ := part_hash v p r t b n hp hr w
  obtain ⟨b1, b2⟩ := part_hash v' p' r' t' b' n' hp' hr' w
  obtain ⟨a3, a4, a5⟩ := hcells_at v p r t b n hp hr
  obtain ⟨b3, b4, b5⟩ := hcells_at v' p' r' t' b' n' hp' hr'
  have eqi : ∀ x y : Int, (Op.equalIn 9999 24 (.int .u32 x) (.int .u32 y)).run Try.prog w = .ok (x == y) w := fun x y => run_equalIn_int w 9998 24 .u32 .u32 x y Try.underlying24
  have eqh : ∀ x y : List Int, x.length = 32 → y.length = 32 → (Op.equalIn 9999 26 (.agg (nums .u8 x).toArray) (.agg (nums .u8 y).toArray)).run Try.prog w = .ok (x == y) w := fun x y hx hy => run_equalIn_nums (P := Try.prog) w 9997 26 5 32 .u8 Try.underlying26 Try.underlying5 (fun w => by rfl) x y hx hy
  refine eqA_of (d := 9999) Try.underlying28 (by kernel_rfl) ?_
  refine eqf_cons rfl (part_u32 _ _ _ rfl w) (part_u32 _ _ _ rfl w) (eqi v v') ?_
  refine eqf_cons rfl a1 b1 (eqh p p' hp hp') ?_
  refine eqf_cons rfl a2 b2 (eqh r r' hr hr') ?_
  refine eqf_cons rfl (part_u32 _ _ _ a3 w) (part_u32 _ _ _ b3 w) (eqi t t') ?_
  refine eqf_cons rfl (part_u32 _ _ _ a4 w) (part_u32 _ _ _ b4 w) (eqi b b') ?_
  exact eqf_last rfl (part_u32 _ _ _ a5 w) (part_u32 _ _ _ b5 w) (eqi n n')
theorem digs4_inj {x y : Int} (hx : 0 ≤ x ∧ x < 4294967296) (hy : 0 ≤ y ∧ y < 4294967296) (h : digs 4 x.toNat = digs 4 y.toNat) : x = y := by
  have h1 := congrArg val h
  rw [val_digs, val_digs] at h1
  have h2 : x.toNat % 256 ^ 4 = y.toNat % 256 ^ 4 := by exact_mod_cast h1
  have e : (256 : Nat) ^ 4 = 4294967296 := by decide
  rw [e] at h2
  omega
/-- A header's values. -/
def HWf (v : Int) (p r : List Int) (t b n : Int) : Prop := p.length = 32 ∧ r.length = 32 ∧ (0 ≤ v ∧ v < 4294967296) ∧ (0 ≤ t ∧ t < 4294967296) ∧ (0 ≤ b ∧ b < 4294967296) ∧ (0 ≤ n ∧ n < 4294967296) ∧ (∀ x ∈ p, 0 ≤ x ∧ x < 256) ∧ (∀ x ∈ r, 0 ≤ x ∧ x < 256)
theorem headB_inj {v : Int} {p r : List Int} {t b n v' : Int} {p' r' : List Int} {t' b' n' : Int} (h1 : HWf v p r t b n) (h2 : HWf v' p' r' t' b' n') (h : headB v p r t b n = headB v' p' r' t' b' n') : v = v' ∧ p = p' ∧ r = r' ∧ t = t' ∧ b = b' ∧ n = n' := by
  obtain ⟨hp, hr, hv, ht, hb, hn, _, _⟩ := h1
  obtain ⟨hp', hr', hv', ht', hb', hn', _, _⟩ := h2
  unfold headB at h
  obtain ⟨h, e1⟩ := List.append_inj' h (by simp [digs_length])
  obtain ⟨h, e2⟩ := List.append_inj' h (by simp [digs_length])
  obtain ⟨h, e3⟩ := List.append_inj' h (by simp [digs_length])
  obtain ⟨e4, h⟩ := List.append_inj h (by simp [digs_length])
  obtain ⟨e5, e6⟩ := List.append_inj h (by rw [hp, hp'])
  exact ⟨digs4_inj hv hv' e4, e5, e6, digs4_inj ht ht' e3, digs4_inj hb hb' e2, digs4_inj hn hn' e1⟩
theorem strh_inj {a b : List Int} (ha : ∀ x ∈ a, 0 ≤ x ∧ x < 256) (hb : ∀ x ∈ b, 0 ≤ x ∧ x < 256) (h : strOfNums a = strOfNums b) : a = b := by
  rw [← bytesOf_str ha, ← bytesOf_str hb, h]
theorem tolisth_inj {a b : ByteArray} (h : a.toList = b.toList) : a = b := by
  apply ByteArray.ext
  apply Array.toList_inj.1
  rw [← Lib.toList_data, ← Lib.toList_data, h]
/-- A header's bytes, turned into a string behind the call. -/
theorem hbytes_str {v : Int} {p r : List Int} {t b n : Int} (h : HWf v p r t b n) {T : ByteArray} (hT : strOfNums (headB v p r t b n) = T) (C : Array Value) (hC : (hcells v p r t b n).toArray = C) (W : World) :
    Calls Try.prog 8 #[.agg C] W fun e w' => ∃ x, e = .returned x ∧ Below W.heap.size W w' ∧ ∀ u : World, Below w'.heap.size w' u → (convert 22 9 x).run Try.prog u = .ok (.string T) u := by
  obtain ⟨hp, hr, hv, ht, hb, hn, _, _⟩ := h
  subst hC
  refine (hbytes_calls v p r t b n W hp hr hv.1 hv.2 ht.1 ht.2 hb.1 hb.2 hn.1 hn.2).mono ?_
  rintro e w' ⟨x, rfl, hR, hbl⟩
  obtain ⟨A, c, rfl, hc, hCC⟩ := Kd.R_reads hR
  exact ⟨_, rfl, hbl, fun u hu => by
    rw [← hT]
    exact Kd.C_string (P := Try.prog) Try.underlying22 Try.underlying5 Try.underlying9 (Kd.C_below hCC hu)⟩
attribute [-go_sem] loadVar
theorem eq32h (S : List Int) (hS : S.length = 32) (w : World) : (Op.equalIn 10000 26 (.agg (nums .u8 S).toArray) (.agg (nums .u8 S).toArray)).run Try.prog w = .ok true w := by
  have h := run_equalIn_nums (P := Try.prog) w 9998 26 5 32 .u8 Try.underlying26 Try.underlying5 (fun w => by rfl) S S hS hS
  rwa [beq_self_eq_true] at h
end Go.Proofs.Ytefnpecncacepaa.Hand
