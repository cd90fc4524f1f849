/- The law HeaderApart: its walk. -/
import Derived.Test.YtefnpecncacepaaDoorProg
import Derived.Below
import Derived.Deep.Draws
import Derived.Deep.AppendLies
import Derived.Maps.AppendAt
import Derived.OwnWalk
import Derived.Laws.BytesArg
import Derived.Laws.MakeOwn
import Derived.Laws.OwnMore
import Derived.Deep.OwnRows
import Derived.Tactics
import Derived.Lib.ConvBytes
import Derived.Laws.Slices
import Derived.WalkKit
import Derived.KernelRfl
import Derived.RowKit3
import Derived.Deep.LoopGhost
import Derived.Deep.QuietTactic
import Derived.BigQuiet
import Derived.WideLaws
import Derived.Deep.DeepCutAuto
import Derived.Deep.CutBlock
import Derived.Deep.RegionHeld3
import Derived.Laws.Rows
import Derived.Lib.AppendStr
import Derived.ArgAppend
import Derived.Laws.IdiomCopy
import Derived.OrdersHeld
import Derived.Laws.BitsLemmas
import Derived.RowKit
import Derived.StillTailTactics
import Derived.Test.YtefnpecncacepaaDoorWWords
import Derived.Test.YtefnpecncacepaaDoorWLast
import Derived.Test.YtefnpecncacepaaDoorWMore
import Derived.Lib.Hide
import Derived.Outline
import Derived.Lib.Strings
import Derived.Deep.RegionLaw
import Derived.Deep.RegionHeld3
import Derived.Deep.DrawnRows
import Derived.Laws.StructEq
import Derived.Test.YtefnpecncacepaaDoorWEqStruct
import Derived.Test.YtefnpecncacepaaDoorArrEq
import Derived.Test.YtefnpecncacepaaDoorStrBytes
import Derived.Test.YtefnpecncacepaaDoorAwake7
namespace Go.Proofs.YtefnpecncacepaaDoor.Hand
open Go Go.RowKit Go.Proofs.YtefnpecncacepaaDoor.Plain Go.Proofs.YtefnpecncacepaaDoor.PAll Go.Proofs.YtefnpecncacepaaDoorW.PrintWords Go.Proofs.YtefnpecncacepaaDoorW.PrintLast Go.Proofs.YtefnpecncacepaaDoorW.PrintMore
set_option linter.unusedVariables false
set_option linter.unusedSimpArgs false
set_option maxRecDepth 100000
attribute [local go_sem ↓] Go.wp_at_zero Go.wp_at_succ
theorem part_hash (v : Int) (p r : List Int) (t b n : Int) (hp : p.length = 32) (hr : r.length = 32) (w : World) :
    (part 24 (hcells v p r t b n).toArray 1).run Tryd.prog w = .ok (.agg (nums .u8 p).toArray) w ∧ (part 24 (hcells v p r t b n).toArray 33).run Tryd.prog w = .ok (.agg (nums .u8 r).toArray) w := by
  obtain ⟨x0, x1, x2, x3, x4, x5, x6, x7, x8, x9, x10, x11, x12, x13, x14, x15, x16, x17, x18, x19, x20, x21, x22, x23, x24, x25, x26, x27, x28, x29, x30, x31, rfl⟩ := list32 p hp
  obtain ⟨y0, y1, y2, y3, y4, y5, y6, y7, y8, y9, y10, y11, y12, y13, y14, y15, y16, y17, y18, y19, y20, y21, y22, y23, y24, y25, y26, y27, y28, y29, y30, y31, rfl⟩ := list32 r hr
  exact ⟨by kernel_rfl, by kernel_rfl⟩
theorem part_u32 (C : Array Value) (o : Nat) (x : Int) (h : C[o]? = some (.int .u32 x)) (w : World) : (part 22 C o).run Tryd.prog w = .ok (.int .u32 x) w := by
  simp [part, isAgg, run_underlying Tryd.underlying22, h]
theorem heads_eq (v : Int) (p r : List Int) (t b n v' : Int) (p' r' : List Int) (t' b' n' : Int) (hp : p.length = 32) (hr : r.length = 32) (hp' : p'.length = 32) (hr' : r'.length = 32) (w : World) :
    (Op.equalIn 10000 26 (.agg (hcells v p r t b n).toArray) (.agg (hcells v' p' r' t' b' n').toArray)).run Tryd.prog w = .ok (v == v' && (p == p' && (r == r' && (t == t' && (b == b' && n == n'))))) w := by
  obtain ⟨a1, a2⟩ := part_hash v p r t b n hp hr w
  obtain ⟨b1, b2⟩ := part_hash v' p' r' t' b' n' hp' hr' w
  obtain ⟨a3, a4, a5⟩ := hcells_at v p r t b n hp hr
  obtain ⟨b3, b4, b5⟩ := hcells_at v' p' r' t' b' n' hp' hr'
  have eqi : ∀ x y : Int, (Op.equalIn 9999 22 (.int .u32 x) (.int .u32 y)).run Tryd.prog w = .ok (x == y) w := fun x y => run_equalIn_int w 9998 22 .u32 .u32 x y Tryd.underlying22
  have eqh : ∀ x y : List Int, x.length = 32 → y.length = 32 → (Op.equalIn 9999 24 (.agg (nums .u8 x).toArray) (.agg (nums .u8 y).toArray)).run Tryd.prog w = .ok (x == y) w := fun x y hx hy => run_equalIn_nums (P := Tryd.prog) w 9997 24 5 32 .u8 Tryd.underlying24 Tryd.underlying5 (fun w => by rfl) x y hx hy
  refine eqA_of (d := 9999) Tryd.underlying26 (by kernel_rfl) ?_
  refine eqf_cons rfl (part_u32 _ _ _ rfl w) (part_u32 _ _ _ rfl w) (eqi v v') ?_
  refine eqf_cons rfl a1 b1 (eqh p p' hp hp') ?_
  refine eqf_cons rfl a2 b2 (eqh r r' hr hr') ?_
  refine eqf_cons rfl (part_u32 _ _ _ a3 w) (part_u32 _ _ _ b3 w) (eqi t t') ?_
  refine eqf_cons rfl (part_u32 _ _ _ a4 w) (part_u32 _ _ _ b4 w) (eqi b b') ?_
  exact eqf_last rfl (part_u32 _ _ _ a5 w) (part_u32 _ _ _ b5 w) (eqi n n')
theorem digs4_inj {x y : Int} (hx : 0 ≤ x ∧ x < 4294967296) (hy : 0 ≤ y ∧ y < 4294967296) (h : digs 4 x.toNat = digs 4 y.toNat) : x = y := by
  have h1 := congrArg val h
  rw [val_digs, val_digs] at h1
  have h2 : x.toNat % 256 ^ 4 = y.toNat % 256 ^ 4 := by exact_mod_cast h1
  have e : (256 : Nat) ^ 4 = 4294967296 := by decide
  rw [e] at h2
  omega
/-- A header's values. -/
def HWf (v : Int) (p r : List Int) (t b n : Int) : Prop := p.length = 32 ∧ r.length = 32 ∧ (0 ≤ v ∧ v < 4294967296) ∧ (0 ≤ t ∧ t < 4294967296) ∧ (0 ≤ b ∧ b < 4294967296) ∧ (0 ≤ n ∧ n < 4294967296) ∧ (∀ x ∈ p, 0 ≤ x ∧ x < 256) ∧ (∀ x ∈ r, 0 ≤ x ∧ x < 256)
theorem headB_inj {v : Int} {p r : List Int} {t b n v' : Int} {p' r' : List Int} {t' b' n' : Int} (h1 : HWf v p r t b n) (h2 : HWf v' p' r' t' b' n') (h : headB v p r t b n = headB v' p' r' t' b' n') : v = v' ∧ p = p' ∧ r = r' ∧ t = t' ∧ b = b' ∧ n = n' := by
  obtain ⟨hp, hr, hv, ht, hb, hn, _, _⟩ := h1
  obtain ⟨hp', hr', hv', ht', hb', hn', _, _⟩ := h2
  unfold headB at h
  obtain ⟨h, e1⟩ := List.append_inj' h (by simp [digs_length])
  obtain ⟨h, e2⟩ := List.append_inj' h (by simp [digs_length])
  obtain ⟨h, e3⟩ := List.append_inj' h (by simp [digs_length])
  obtain ⟨e4, h⟩ := List.append_inj h (by simp [digs_length])
  obtain ⟨e5, e6⟩ := List.append_inj h (by rw [hp, hp'])
  exact ⟨digs4_inj hv hv' e4, e5, e6, digs4_inj ht ht' e3, digs4_inj hb hb' e2, digs4_inj hn hn' e1⟩
theorem strh_inj {a b : List Int} (ha : ∀ x ∈ a, 0 ≤ x ∧ x < 256) (hb : ∀ x ∈ b, 0 ≤ x ∧ x < 256) (h : strOfNums a = strOfNums b) : a = b := by
  rw [← bytesOf_str ha, ← bytesOf_str hb, h]
theorem tolisth_inj {a b : ByteArray} (h : a.toList = b.toList) : a = b := by
  apply ByteArray.ext
  apply Array.toList_inj.1
  rw [← Lib.toList_data, ← Lib.toList_data, h]
/-- A header's bytes, turned into a string behind the call. -/
theorem hbytes_str {v : Int} {p r : List Int} {t b n : Int} (h : HWf v p r t b n) {T : ByteArray} (hT : strOfNums (headB v p r t b n) = T) (C : Array Value) (hC : (hcells v p r t b n).toArray = C) (W : World) :
    Calls Tryd.prog 8 #[.agg C] W fun e w' => ∃ x, e = .returned x ∧ Below W.heap.size W w' ∧ ∀ u : World, Below w'.heap.size w' u → (convert 28 9 x).run Tryd.prog u = .ok (.string T) u := by
  obtain ⟨hp, hr, hv, ht, hb, hn, _, _⟩ := h
  subst hC
  refine (hbytes_calls v p r t b n W hp hr hv.1 hv.2 ht.1 ht.2 hb.1 hb.2 hn.1 hn.2).mono ?_
  rintro e w' ⟨x, rfl, hR, hbl⟩
  obtain ⟨A, c, rfl, hc, hCC⟩ := Kd.R_reads hR
  exact ⟨_, rfl, hbl, fun u hu => by
    rw [← hT]
    exact Kd.C_string (P := Tryd.prog) Tryd.underlying28 Tryd.underlying5 Tryd.underlying9 (Kd.C_below hCC hu)⟩
attribute [-go_sem] loadVar
set_option maxHeartbeats 4000000 in
theorem apart_ne (v : Int) (p r : List Int) (t b n v' : Int) (p' r' : List Int) (t' b' n' : Int) (w : World) (h1 : HWf v p r t b n) (h2 : HWf v' p' r' t' b' n') (hne : ¬ (v = v' ∧ p = p' ∧ r = r' ∧ t = t' ∧ b = b' ∧ n = n')) :
    Calls Tryd.prog 3 #[hV v p r t b n, hV v' p' r' t' b' n'] w fun e w' => e = .returned (.bool true) ∧ Below w.heap.size w w' := by
  have q0 := fun W => heads_eq v p r t b n v' p' r' t' b' n' h1.1 h1.2.1 h2.1 h2.2.1 W
  have hf : (v == v' && (p == p' && (r == r' && (t == t' && (b == b' && n == n'))))) = false := by
    cases hq : (v == v' && (p == p' && (r == r' && (t == t' && (b == b' && n == n'))))) with
    | false => rfl
    | true =>
      simp only [Bool.and_eq_true, beq_iff_eq] at hq
      exact absurd ⟨hq.1, hq.2.1, hq.2.2.1, hq.2.2.2.1, hq.2.2.2.2.1, hq.2.2.2.2.2⟩ hne
  rw [hf] at q0
  have hTne : strOfNums (headB v p r t b n) ≠ strOfNums (headB v' p' r' t' b' n') := fun e => hne (headB_inj h1 h2 (strh_inj (headB_bytes _ _ _ _ h1.2.2.2.2.2.2.1 h1.2.2.2.2.2.2.2) (headB_bytes _ _ _ _ h2.2.2.2.2.2.2.1 h2.2.2.2.2.2.2.2) e))
  have hz1 : (Tryd.prog.info? 26).map (·.size) = some (hcells v p r t b n).toArray.size := by
    rw [(zero_of_info infoH).2]
    simp [hcells_len v p r t b n h1.1 h1.2.1]
  have hz2 : (Tryd.prog.info? 26).map (·.size) = some (hcells v' p' r' t' b' n').toArray.size := by
    rw [(zero_of_info infoH).2]
    simp [hcells_len v' p' r' t' b' n' h2.1 h2.2.1]
  obtain ⟨T1, hT1⟩ : ∃ T, strOfNums (headB v p r t b n) = T := ⟨_, rfl⟩
  obtain ⟨T2, hT2⟩ : ∃ T, strOfNums (headB v' p' r' t' b' n') = T := ⟨_, rfl⟩
  unfold hV
  obtain ⟨C, hC⟩ : ∃ C, (hcells v p r t b n).toArray = C := ⟨_, rfl⟩
  obtain ⟨D, hD⟩ : ∃ C, (hcells v' p' r' t' b' n').toArray = C := ⟨_, rfl⟩
  have HBC := Lib.hid (fun W => hbytes_str h1 hT1 C hC W)
  have HBD := Lib.hid (fun W => hbytes_str h2 hT2 D hD W)
  rw [hT1, hT2] at hTne
  rw [hC, hD] at q0 ⊢
  rw [hC] at hz1
  rw [hD] at hz2
  have hcmp3 : (T1.toList == T2.toList) = false := beq_eq_false_iff_ne.2 (fun e => hTne (tolisth_inj e))
  have hcmp4 : (T1.toList = T2.toList) = False := eq_false (fun h => hTne (tolisth_inj h))
  have HB1 := Lib.hid (below_alloc (below_alloc (Below.refl w.heap.size w) (.cells C 26)) (.cells D 26))
  have HC1 := Lib.hid (heap_alloc2_old w (.cells C 26) (.cells D 26))
  have HD1 := Lib.hid (heap_alloc2_new w (.cells C 26) (.cells D 26))
  have HZ := Lib.hid (And.intro hz1 (And.intro hz2 Tryd.underlying26))
  clear hf hz1 hz2 hT1 hT2 hC hD h1 h2 hne hTne
  go_enter Tryd.func3, Tryd.ntmps3
  go_wp2_with (first | ((with_reducible show wpList _ _ _ (Oper.mk _ (Op.load _ (.tmp 2)) _ _ _ _ :: _) _ _); (go_loud (refine wpList_load_row rfl 26 (.tmp 2) rfl w.heap.size rfl 26 C (0, 0) _ HC1.out HZ.out.2.2 rfl HZ.out.1 ?_))) | ((with_reducible show wpList _ _ _ (Oper.mk _ (Op.load _ (.tmp 3)) _ _ _ _ :: _) _ _); (go_loud (refine wpList_load_row rfl 26 (.tmp 3) rfl (w.heap.size + 1) rfl 26 D (0, 0) _ HD1.out HZ.out.2.2 rfl HZ.out.2.1 ?_))))
  have HLD := Lib.hid (show ∀ u : World, Below (w.heap.size + 2) ((w.alloc (.cells C 26)).alloc (.cells D 26)) u → (loadVar 26 ⟨w.heap.size, 0, none⟩).run Tryd.prog u = .ok (.agg C) u ∧ (loadVar 26 ⟨w.heap.size + 1, 0, none⟩).run Tryd.prog u = .ok (.agg D) u from fun u hu => ⟨run_loadVar_row u w.heap.size _ _ C (0, 0) _ ((hu.block _ (by omega)).trans HC1.out) HZ.out.2.2 rfl HZ.out.1, run_loadVar_row u (w.heap.size + 1) _ _ D (0, 0) _ ((hu.block _ (by omega)).trans HD1.out) HZ.out.2.2 rfl HZ.out.2.1⟩)
  have HW := Lib.hid (show (((w.alloc (.cells C 26)).alloc (.cells D 26)).drew).heap.size = w.heap.size + 2 by simp)
  have HBZ := Lib.hid (below_drew (Below.refl (w.heap.size + 2) ((w.alloc (.cells C 26)).alloc (.cells D 26))))
  obtain ⟨W2, hW2⟩ : ∃ W, (w.alloc (.cells C 26)).alloc (.cells D 26) = W := ⟨_, rfl⟩
  rw [hW2] at HLD HW HBZ HB1 ⊢
  clear HC1 HD1 q0
  obtain ⟨l0, l1⟩ := HLD.out _ HBZ.out
  go_region_law (first
      | (go_simp; go_at_call 8; (with_reducible refine (HBC.out _).mono ?_); rintro e w5 ⟨x5, rfl, hb5, cv5⟩; have HB5 := Lib.hid (HBZ.out.trans (Below.mono hb5 (by have := HW.out; omega))); have k5 := cv5 w5 (Below.refl _ _); obtain ⟨m0, m1⟩ := HLD.out _ HB5.out; have CV5 := Lib.hid cv5; clear hb5 cv5)
      | (go_simp; go_at_call 8; (with_reducible refine (HBD.out _).mono ?_); rintro e w6 ⟨x6, rfl, hb6, cv6⟩; have HB6 := Lib.hid (HB5.out.trans (Below.mono hb6 (by have := HB5.out.size; have := HW.out; simp at this; omega))); have k6 := cv6 w6 (Below.refl _ _); have k56 := CV5.out w6 hb6; clear hb6 cv6)
      | (go_simp; go_at_call 9; (with_reducible refine (awake7_calls _).mono ?_); rintro e w9 ⟨rfl, hb9⟩; have HB9 := Lib.hid (HB6.out.trans (Below.mono hb9 (by have := HB6.out.size; have := HW.out; simp at this; omega))); clear hb9))
  all_goals
    go_wp2
    go_ret
    exact ⟨rfl, HB1.out.trans (Below.mono HB9.out (by have := HB1.out.size; omega))⟩
theorem eq32h (S : List Int) (hS : S.length = 32) (w : World) : (Op.equalIn 10000 24 (.agg (nums .u8 S).toArray) (.agg (nums .u8 S).toArray)).run Tryd.prog w = .ok true w := by
  have h := run_equalIn_nums (P := Tryd.prog) w 9998 24 5 32 .u8 Tryd.underlying24 Tryd.underlying5 (fun w => by rfl) S S hS hS
  rwa [beq_self_eq_true] at h
set_option maxHeartbeats 8000000 in
theorem apart_eq (v : Int) (p r : List Int) (t b n : Int) (w : World) (h1 : HWf v p r t b n) (hK : KT w) :
    Calls Tryd.prog 3 #[hV v p r t b n, hV v p r t b n] w fun e w' => e = .returned (.bool true) ∧ Below w.heap.size w w' := by
  have q0 := fun W => heads_eq v p r t b n v p r t b n h1.1 h1.2.1 h1.1 h1.2.1 W
  simp only [beq_self_eq_true, Bool.and_self] at q0
  have hz1 : (Tryd.prog.info? 26).map (·.size) = some (hcells v p r t b n).toArray.size := by
    rw [(zero_of_info infoH).2]
    simp [hcells_len v p r t b n h1.1 h1.2.1]
  have HHS := Lib.hid (fun (W : World) (hW : KT W) => hhash_calls v p r t b n W h1.1 h1.2.1 h1.2.2.1.1 h1.2.2.1.2 h1.2.2.2.1.1 h1.2.2.2.1.2 h1.2.2.2.2.1.1 h1.2.2.2.2.1.2 h1.2.2.2.2.2.1.1 h1.2.2.2.2.2.1.2 h1.2.2.2.2.2.2.1 h1.2.2.2.2.2.2.2 hW)
  have q1 := eq32h (twiceP (headB v p r t b n)) (sumP_len _)
  obtain ⟨T1, hT1⟩ : ∃ T, strOfNums (headB v p r t b n) = T := ⟨_, rfl⟩
  obtain ⟨R1, hR1⟩ : ∃ R, (nums .u8 (twiceP (headB v p r t b n))).toArray = R := ⟨_, rfl⟩
  rw [hR1] at HHS q1
  unfold hV at HHS ⊢
  obtain ⟨C, hC⟩ : ∃ C, (hcells v p r t b n).toArray = C := ⟨_, rfl⟩
  have HBC := Lib.hid (fun W => hbytes_str h1 hT1 C hC W)
  have HBD := Lib.hid HBC.out
  rw [hC] at q0 HHS hz1 ⊢
  have HHT := Lib.hid HHS.out
  have HB1 := Lib.hid (below_alloc (below_alloc (Below.refl w.heap.size w) (.cells C 26)) (.cells C 26))
  have HC1 := Lib.hid (heap_alloc2_old w (.cells C 26) (.cells C 26))
  have HD1 := Lib.hid (heap_alloc2_new w (.cells C 26) (.cells C 26))
  have HZ := Lib.hid (And.intro hz1 Tryd.underlying26)
  have HK := Lib.hid hK
  clear hz1 hT1 hC h1 hR1 hK
  go_enter Tryd.func3, Tryd.ntmps3
  go_wp2_with (first | ((with_reducible show wpList _ _ _ (Oper.mk _ (Op.load _ (.tmp 2)) _ _ _ _ :: _) _ _); (go_loud (refine wpList_load_row rfl 26 (.tmp 2) rfl w.heap.size rfl 26 C (0, 0) _ HC1.out HZ.out.2 rfl HZ.out.1 ?_))) | ((with_reducible show wpList _ _ _ (Oper.mk _ (Op.load _ (.tmp 3)) _ _ _ _ :: _) _ _); (go_loud (refine wpList_load_row rfl 26 (.tmp 3) rfl (w.heap.size + 1) rfl 26 C (0, 0) _ HD1.out HZ.out.2 rfl HZ.out.1 ?_))))
  have HLD := Lib.hid (show ∀ u : World, Below (w.heap.size + 2) ((w.alloc (.cells C 26)).alloc (.cells C 26)) u → (loadVar 26 ⟨w.heap.size, 0, none⟩).run Tryd.prog u = .ok (.agg C) u ∧ (loadVar 26 ⟨w.heap.size + 1, 0, none⟩).run Tryd.prog u = .ok (.agg C) u from fun u hu => ⟨run_loadVar_row u w.heap.size _ _ C (0, 0) _ ((hu.block _ (by omega)).trans HC1.out) HZ.out.2 rfl HZ.out.1, run_loadVar_row u (w.heap.size + 1) _ _ C (0, 0) _ ((hu.block _ (by omega)).trans HD1.out) HZ.out.2 rfl HZ.out.1⟩)
  have HW := Lib.hid (show (((w.alloc (.cells C 26)).alloc (.cells C 26)).drew).heap.size = w.heap.size + 2 by simp)
  have HBZ := Lib.hid (below_drew (Below.refl (w.heap.size + 2) ((w.alloc (.cells C 26)).alloc (.cells C 26))))
  obtain ⟨W2, hW2⟩ : ∃ W, (w.alloc (.cells C 26)).alloc (.cells C 26) = W := ⟨_, rfl⟩
  rw [hW2] at HLD HW HBZ HB1 ⊢
  have HKT := Lib.hid (show ∀ u : World, Below (w.heap.size + 2) W2 u → KT u from fun u hu => HK.out.below (HB1.out.trans (Below.mono hu (by omega))) (Nat.le_refl _))
  have HSZ := Lib.hid (show ∀ u u' : World, Below (w.heap.size + 2) W2.drew u → Below u.heap.size u u' → Below (w.heap.size + 2) W2.drew u' from fun u u' hu hu' => hu.trans (Below.mono hu' (by have h7 := hu.size; have h8 := HW.out; omega)))
  have HDZ := Lib.hid (show ∀ u : World, Below (w.heap.size + 2) W2.drew u → Below (w.heap.size + 2) W2 u from fun u hu => HBZ.out.trans hu)
  have HB0 := Lib.hid (Below.refl (w.heap.size + 2) W2.drew)
  clear HC1 HD1 q0 hW2 HBZ
  obtain ⟨l0, l1⟩ := HLD.out _ (HDZ.out _ HB0.out)
  go_region_law (first
      | (go_simp; go_at_call 7; (with_reducible refine (HHS.out _ (HKT.out _ (HDZ.out _ HB0.out))).mono ?_); rintro e w3 ⟨rfl, hb3⟩; have HB3 := Lib.hid (HSZ.out _ _ HB0.out hb3); obtain ⟨m0, m1⟩ := HLD.out _ (HDZ.out _ HB3.out); clear hb3 HHS)
      | (go_simp; go_at_call 7; (with_reducible refine (HHT.out _ (HKT.out _ (HDZ.out _ HB3.out))).mono ?_); rintro e w4 ⟨rfl, hb4⟩; have HB4 := Lib.hid (HSZ.out _ _ HB3.out hb4); obtain ⟨n0, n1⟩ := HLD.out _ (HDZ.out _ HB4.out); clear hb4 HHT)
      | (go_simp; go_at_call 8; (with_reducible refine (HBC.out _).mono ?_); rintro e w5 ⟨x5, rfl, hb5, cv5⟩; have HB5 := Lib.hid (HSZ.out _ _ HB4.out hb5); have k5 := cv5 w5 (Below.refl _ _); obtain ⟨o0, o1⟩ := HLD.out _ (HDZ.out _ HB5.out); have CV5 := Lib.hid cv5; clear hb5 cv5 HBC)
      | (go_simp; go_at_call 8; (with_reducible refine (HBD.out _).mono ?_); rintro e w6 ⟨x6, rfl, hb6, cv6⟩; have HB6 := Lib.hid (HSZ.out _ _ HB5.out hb6); have k6 := cv6 w6 (Below.refl _ _); have k56 := CV5.out w6 hb6; clear hb6 cv6 HBD)
      | (go_simp; go_at_call 9; (with_reducible refine (awake7_calls _).mono ?_); rintro e w9 ⟨rfl, hb9⟩; have HB9 := Lib.hid (HSZ.out _ _ HB6.out hb9); clear hb9))
  all_goals
    clear q1
    go_wp2
    go_ret
    exact ⟨rfl, HB1.out.trans (Below.mono (HDZ.out _ HB9.out) (by omega))⟩
theorem apartl_calls (v : Int) (p r : List Int) (t b n v' : Int) (p' r' : List Int) (t' b' n' : Int) (w : World) (hK : KT w) (h1 : HWf v p r t b n) (h2 : HWf v' p' r' t' b' n') :
    Calls Tryd.prog 3 #[hV v p r t b n, hV v' p' r' t' b' n'] w fun e w' => e = .returned (.bool true) ∧ Below w.heap.size w w' := by
  by_cases h : v = v' ∧ p = p' ∧ r = r' ∧ t = t' ∧ b = b' ∧ n = n'
  · obtain ⟨rfl, rfl, rfl, rfl, rfl, rfl⟩ := h
    exact apart_eq v p r t b n w h1 hK
  · exact apart_ne v p r t b n v' p' r' t' b' n' w h1 h2 h
end Go.Proofs.YtefnpecncacepaaDoor.Hand
