/- Several texts in one. -/
import Derived.Test.YtefnpecncacepaaProg
import Derived.Below
import Derived.Deep.Draws
import Derived.Deep.AppendLies
import Derived.Maps.AppendAt
import Derived.OwnWalk
import Derived.Laws.BytesArg
import Derived.Laws.MakeOwn
import Derived.Laws.OwnMore
import Derived.Deep.OwnRows
import Derived.Tactics
import Derived.Lib.ConvBytes
import Derived.Laws.Slices
import Derived.WalkKit
import Derived.KernelRfl
import Derived.RowKit3
import Derived.Deep.LoopGhost
import Derived.Deep.QuietTactic
import Derived.BigQuiet
import Derived.WideLaws
import Derived.Deep.DeepCutAuto
import Derived.Deep.CutBlock
import Derived.Deep.RegionHeld3
import Derived.Laws.Rows
import Derived.Lib.AppendStr
import Derived.ArgAppend
import Derived.Laws.IdiomCopy
import Derived.OrdersHeld
import Derived.Laws.BitsLemmas
import Derived.RowKit
import Derived.StillTailTactics
import Derived.Test.YtefnpecncacepaaWWords
import Derived.Test.YtefnpecncacepaaWLast
import Derived.Test.YtefnpecncacepaaWMore
import Derived.Lib.Hide
import Derived.Outline
import Derived.Test.YtefnpecncacepaaRef
import Derived.Test.YtefnpecncacepaaHeadBack
import Derived.Deep.MidRow
import Derived.Deep.WholeRow
import Derived.Deep.DrawnRows
import Derived.Test.YtefnpecncacepaaAnyInv
import Derived.Test.YtefnpecncacepaaStrBytes
import Derived.Test.YtefnpecncacepaaLawRef
import Derived.Laws.StructEq
/- The document's number of four bytes from a place on. -/
namespace Go.Proofs.Ytefnpecncacepaa.Hand
open Go Go.RowKit Go.Proofs.Ytefnpecncacepaa.Plain Go.Proofs.Ytefnpecncacepaa.PAll Go.Proofs.YtefnpecncacepaaW.PrintWords Go.Proofs.YtefnpecncacepaaW.PrintLast Go.Proofs.YtefnpecncacepaaW.PrintMore
set_option linter.unusedVariables false
set_option linter.unusedSimpArgs false
set_option maxRecDepth 100000
/-- The number of four bytes from a place on. -/
def atN (bs : List Int) (k : Nat) : Int := (numR (bs.drop k) 0 0 4).1 % 4294967296
set_option maxHeartbeats 1000000 in
set_option maxRecDepth 100000 in
theorem at_calls (bs : List Int) (k : Nat) (w : World) (hk : k ≤ bs.length) (hl : bs.length ≤ 1000000) (hb : ∀ x ∈ bs, 0 ≤ x ∧ x < 256) :
    Calls Try.prog 13 #[.string (strOfNums bs), .int .i64 k] w fun e w' => e = .returned (.int .u32 (atN bs k)) ∧ Below w.heap.size w w' := by
  have HN := Lib.hid (rnumber_calls (bs.drop k) 0 4 (by simp; omega) (fun x hx => hb x (List.mem_of_mem_drop hx)))
  have hsz : (strOfNums bs).size = bs.length := strOfNums_size bs
  have hx : (strOfNums bs).extract k bs.length = strOfNums (bs.drop k) := by
    rw [str_extract, List.take_of_length_le (by simp)]
  obtain ⟨S, hS⟩ : ∃ S, strOfNums bs = S := ⟨_, rfl⟩
  obtain ⟨T, hT⟩ : ∃ T, strOfNums (bs.drop k) = T := ⟨_, rfl⟩
  obtain ⟨v, hv⟩ : ∃ v, (numR (bs.drop k) 0 0 4).1 = v := ⟨_, rfl⟩
  obtain ⟨T2, hT2⟩ : ∃ T, strOfNums ((bs.drop k).drop (numR (bs.drop k) 0 0 4).2.1) = T := ⟨_, rfl⟩
  obtain ⟨e2, he2⟩ : ∃ v, (numR (bs.drop k) 0 0 4).2.2 = v := ⟨_, rfl⟩
  rw [hT, hv, hT2, he2] at HN
  rw [hS] at hsz hx ⊢
  rw [hT] at hx
  unfold atN
  rw [hv]
  obtain ⟨n, hn⟩ : ∃ n, bs.length = n := ⟨_, rfl⟩
  rw [hn] at hsz hx hk
  have p1 : (0 ≤ (k : Int)) = True := eq_true (by omega)
  have p2 : ((k : Int) ≤ (n : Int)) = True := eq_true (by omega)
  have p3 : k ≤ S.size := by omega
  have hx2 : S.extract k S.size = T := by rw [hsz]; exact hx
  clear hS hT hv hT2 he2 hn hb hl
  go_enter Try.func13, Try.ntmps13
  go_wp2_with fail
  with_reducible refine (HN.out _).mono ?_
  rintro x w2 ⟨rfl, hb2⟩
  have HB2 := Lib.hid (below_alloc hb2 (.cells #[.string T2, .int .i64 e2] 57))
  clear hb2 HN
  go_wp2
  go_ret
  exact ⟨rfl, HB2.out⟩
end Go.Proofs.Ytefnpecncacepaa.Hand

/- Eighty bytes are a header's; fewer, or more, are none's: the plain law. -/
namespace Go.Proofs.Ytefnpecncacepaa.Hand
open Go Go.RowKit Go.Proofs.Ytefnpecncacepaa.Plain Go.Proofs.Ytefnpecncacepaa.PAll Go.Proofs.YtefnpecncacepaaW.PrintWords Go.Proofs.YtefnpecncacepaaW.PrintLast Go.Proofs.YtefnpecncacepaaW.PrintMore
set_option linter.unusedVariables false
theorem digs_val : ∀ l : List Int, (∀ x ∈ l, 0 ≤ x ∧ x < 256) → digs l.length (val l).toNat = l
  | [], _ => rfl
  | x :: l, h => by
    have h1 := h x (by simp)
    have h2 := fun y hy => h y (List.mem_cons_of_mem x hy)
    have h3 := val_bounds l h2
    have e : (val (x :: l)).toNat = x.toNat + 256 * (val l).toNat := by simp only [val]; omega
    rw [List.length_cons, e, digs, show (x.toNat + 256 * (val l).toNat) % 256 = x.toNat by omega, show (x.toNat + 256 * (val l).toNat) / 256 = (val l).toNat by omega, digs_val l h2]
    congr 1
    omega
theorem head_part {bs : List Int} (hb : ∀ x ∈ bs, 0 ≤ x ∧ x < 256) (p k : Nat) : ∀ x ∈ (bs.drop p).take k, 0 ≤ x ∧ x < 256 := fun x hx => hb x (List.mem_of_mem_drop (List.mem_of_mem_take hx))
theorem head_num {bs : List Int} (hb : ∀ x ∈ bs, 0 ≤ x ∧ x < 256) (p : Nat) (hp : p + 4 ≤ bs.length) : (0 ≤ val ((bs.drop p).take 4) ∧ val ((bs.drop p).take 4) < 4294967296) ∧ digs 4 (val ((bs.drop p).take 4)).toNat = (bs.drop p).take 4 := by
  have hl : ((bs.drop p).take 4).length = 4 := by simp; omega
  have h1 := val_bounds _ (head_part hb p 4)
  rw [hl] at h1
  have h2 := digs_val _ (head_part hb p 4)
  rw [hl] at h2
  exact ⟨⟨h1.1, by have := h1.2; omega⟩, h2⟩
/-- Eighty bytes are just one header's. -/
theorem head_all {bs : List Int} (hb : ∀ x ∈ bs, 0 ≤ x ∧ x < 256) (hl : bs.length = 80) : ∃ (v : Int) (p r : List Int) (t b n : Int), HWf v p r t b n ∧ bs = headB v p r t b n := by
  obtain ⟨a1, b1⟩ := head_num hb 0 (by omega)
  obtain ⟨a2, b2⟩ := head_num hb 68 (by omega)
  obtain ⟨a3, b3⟩ := head_num hb 72 (by omega)
  obtain ⟨a4, b4⟩ := head_num hb 76 (by omega)
  refine ⟨_, (bs.drop 4).take 32, (bs.drop 36).take 32, _, _, _, ⟨by simp; omega, by simp; omega, a1, a2, a3, a4, head_part hb 4 32, head_part hb 36 32⟩, ?_⟩
  unfold headB
  rw [b1, b2, b3, b4]
  have s : ∀ (p k : Nat), (bs.drop p).take k ++ bs.drop (p + k) = bs.drop p := fun p k => by rw [← List.drop_drop, List.take_append_drop]
  have e0 : bs.drop 0 = bs := rfl
  have e6 : (bs.drop 76).take 4 = bs.drop 76 := List.take_of_length_le (by simp; omega)
  simp only [List.append_assoc]
  rw [e6, show bs.drop 76 = bs.drop (72 + 4) from rfl, s 72 4, show bs.drop 72 = bs.drop (68 + 4) from rfl, s 68 4, show bs.drop 68 = bs.drop (36 + 32) from rfl, s 36 32, show bs.drop 36 = bs.drop (4 + 32) from rfl, s 4 32, show bs.drop 4 = bs.drop (0 + 4) from rfl, s 0 4, e0]
theorem takeR_st {bs : List Int} {q p : Nat} {e : Int} (k : Nat) (h : (e = 0 ∧ p = q ∧ q ≤ bs.length) ∨ (e = 2 ∧ bs.length < q)) :
    ((takeR bs p e (k : Int)).2.2 = 0 ∧ (takeR bs p e (k : Int)).2.1 = q + k ∧ q + k ≤ bs.length) ∨ ((takeR bs p e (k : Int)).2.2 = 2 ∧ bs.length < q + k) := by
  rcases h with ⟨rfl, rfl, h⟩ | ⟨rfl, h⟩
  · unfold takeR
    rw [if_neg (by simp)]
    by_cases hk : (bs.length : Int) - p < k
    · rw [if_pos hk]
      exact .inr ⟨rfl, by omega⟩
    · rw [if_neg hk]
      exact .inl ⟨rfl, by simp, by omega⟩
  · unfold takeR
    rw [if_pos (by decide)]
    exact .inr ⟨rfl, by omega⟩
/-- How a header's parse goes on other bytes. -/
theorem head_other {bs : List Int} (hl : bs.length ≠ 80) : headE bs = if bs.length < 80 then 2 else 3 := by
  have k1 := takeR_st (bs := bs) (q := 0) (p := 0) (e := 0) 4 (.inl ⟨rfl, rfl, Nat.zero_le _⟩)
  have k2 := takeR_st 32 k1
  have k3 := takeR_st 32 k2
  have k4 := takeR_st 4 k3
  have k5 := takeR_st 4 k4
  have k6 := takeR_st 4 k5
  have r1 : (h1R bs).2 = (takeR bs 0 0 (4 : Nat)).2 := by unfold h1R numR; rw [wid4h]
  have r2 : (h2R bs).2 = (takeR bs (h1R bs).2.1 (h1R bs).2.2 (32 : Nat)).2 := rfl
  have r3 : (h3R bs).2 = (takeR bs (h2R bs).2.1 (h2R bs).2.2 (32 : Nat)).2 := rfl
  have r4 : (h4R bs).2 = (takeR bs (h3R bs).2.1 (h3R bs).2.2 (4 : Nat)).2 := by unfold h4R numR; rw [wid4h]
  have r5 : (h5R bs).2 = (takeR bs (h4R bs).2.1 (h4R bs).2.2 (4 : Nat)).2 := by unfold h5R numR; rw [wid4h]
  have r6 : (h6R bs).2 = (takeR bs (h5R bs).2.1 (h5R bs).2.2 (4 : Nat)).2 := by unfold h6R numR; rw [wid4h]
  rw [← r1] at k2 k3 k4 k5 k6
  rw [← r2] at k3 k4 k5 k6
  rw [← r3] at k4 k5 k6
  rw [← r4] at k5 k6
  rw [← r5] at k6
  rw [← r6] at k6
  unfold headE endR
  rcases k6 with ⟨a, b, c⟩ | ⟨a, b⟩
  · rw [if_pos ⟨a, by omega⟩, if_neg (by omega)]
  · rw [if_neg (by rw [a]; simp), if_pos (by omega), a]
end Go.Proofs.Ytefnpecncacepaa.Hand

/- The document's Parse of a header's bytes: walked. -/
namespace Go.Proofs.Ytefnpecncacepaa.Hand
open Go Go.RowKit Go.Proofs.Ytefnpecncacepaa.Plain Go.Proofs.Ytefnpecncacepaa.PAll Go.Proofs.YtefnpecncacepaaW.PrintWords Go.Proofs.YtefnpecncacepaaW.PrintLast Go.Proofs.YtefnpecncacepaaW.PrintMore
set_option linter.unusedVariables false
set_option linter.unusedSimpArgs false
set_option maxRecDepth 100000
attribute [local go_sem ↓] Go.wp_at_zero Go.wp_at_succ
attribute [-go_sem] loadVar storeVar
theorem atN_of {bs pre post : List Int} {k : Nat} {x : Int} (hb : bs = pre ++ (digs 4 x.toNat ++ post)) (hp : pre.length = k) (hx : 0 ≤ x ∧ x < 4294967296) : atN bs k = x := by
  subst hb hp
  unfold atN numR
  rw [List.drop_left, wid4h, takeR_at (bs := digs 4 x.toNat ++ post) (pre := []) (x := digs 4 x.toNat) (post := post) (p := 0) (k := 4) rfl rfl (digs_length 4 _)]
  simp only
  rw [val_digs]
  have e : (256 : Nat) ^ 4 = 4294967296 := by decide
  rw [e]
  omega
theorem infoA : (Try.prog.info? 25).map (fun i => (i.zero, i.size)) = some (some (.agg (nums .u8 (List.replicate 32 0)).toArray), 32) := by kernel_rfl
theorem head_ats {v : Int} {p r : List Int} {t b n : Int} (h : HWf v p r t b n) : atN (headB v p r t b n) 0 = v ∧ atN (headB v p r t b n) 68 = t ∧ atN (headB v p r t b n) 72 = b ∧ atN (headB v p r t b n) 76 = n := by
  obtain ⟨hp, hr, hv, ht, hb, hn, _, _⟩ := h
  refine ⟨atN_of (pre := []) (post := p ++ r ++ digs 4 t.toNat ++ digs 4 b.toNat ++ digs 4 n.toNat) (by simp [headB]) rfl hv,
    atN_of (pre := digs 4 v.toNat ++ p ++ r) (post := digs 4 b.toNat ++ digs 4 n.toNat) (by simp [headB]) (by simp only [List.length_append, digs_length, hp, hr]) ht,
    atN_of (pre := digs 4 v.toNat ++ p ++ r ++ digs 4 t.toNat) (post := digs 4 n.toNat) (by simp [headB]) (by simp only [List.length_append, digs_length, hp, hr]) hb,
    atN_of (pre := digs 4 v.toNat ++ p ++ r ++ digs 4 t.toNat ++ digs 4 b.toNat) (post := []) (by simp [headB]) (by simp only [List.length_append, digs_length, hp, hr]) hn⟩
theorem head_cut {v : Int} {p r : List Int} {t b n : Int} (h : HWf v p r t b n) : (strOfNums (headB v p r t b n)).extract 4 36 = strOfNums p ∧ (strOfNums (headB v p r t b n)).extract 36 68 = strOfNums r := by
  obtain ⟨hp, hr, hv, ht, hb, hn, _, _⟩ := h
  have hd := digs_length 4 v.toNat
  constructor
  · rw [str_extract]
    congr 1
    unfold headB
    simp only [List.append_assoc]
    rw [List.drop_append_of_le_length (by omega), List.drop_of_length_le (by omega), List.nil_append, List.take_append_of_le_length (by omega), List.take_of_length_le (by omega)]
  · rw [str_extract]
    congr 1
    unfold headB
    simp only [List.append_assoc]
    rw [List.drop_append, List.drop_of_length_le (by omega), List.nil_append, hd, List.drop_append_of_le_length (by omega), List.drop_of_length_le (by omega), List.nil_append, List.take_append_of_le_length (by omega), List.take_of_length_le (by omega)]
theorem range_below {w u : World} {b o : Nat} {cs : List Value} (h : Below w.heap.size w u) (hb : b < w.heap.size) (hr : w.rangeAt b o cs) : u.rangeAt b o cs := fun j v hj => by
  rw [h.cell (p := ⟨b, o + j, none⟩) hb]
  exact hr j v hj
/-- What is so while the region goes on: of each operation that has come up, what its slot holds. -/
structure PI (w : World) (v t b n : Int) (P R : List Value) (C Z : Array Value) (l1 l4 l5 l6 l9 l10 l11 l13 l15 l17 l18 l19 : Bool) (v4 v7 v8 v9 v12 v13 v14 v16 v18 v20 v21 : Value) (W : World) : Prop where
  below : Below w.heap.size w W
  cell : W.heap[w.heap.size]? = some (.cells (if l19 = true then C else Z) 33 (0, 0))
  a4 : l1 = true → v4 = .int .u32 v
  a16 : l13 = true → v16 = .int .u32 t
  a18 : l15 = true → v18 = .int .u32 b
  a20 : l17 = true → v20 = .int .u32 n
  b7 : l19 = false → l4 = true → ∃ g c, v7 = .slice (some ⟨g, 0, none⟩) 32 c ∧ g < W.heap.size ∧ W.rangeAt g 0 P
  b8 : l19 = false → l5 = true → ∃ g, v8 = .pointer (some ⟨g, 0, none⟩) ∧ g < W.heap.size ∧ W.rangeAt g 0 P
  b9 : l6 = true → v9 = .agg P.toArray
  d12 : l19 = false → l9 = true → ∃ g c, v12 = .slice (some ⟨g, 0, none⟩) 32 c ∧ g < W.heap.size ∧ W.rangeAt g 0 R
  d13 : l19 = false → l10 = true → ∃ g, v13 = .pointer (some ⟨g, 0, none⟩) ∧ g < W.heap.size ∧ W.rangeAt g 0 R
  d14 : l11 = true → v14 = .agg R.toArray
  e21 : l18 = true → v21 = .agg C
  late : l19 = true → l1 = true ∧ l4 = true ∧ l5 = true ∧ l6 = true ∧ l9 = true ∧ l10 = true ∧ l11 = true ∧ l13 = true ∧ l15 = true ∧ l17 = true ∧ l18 = true
section
variable {w : World} {v t b n : Int} {P R : List Value} {C Z : Array Value} {l1 l4 l5 l6 l9 l10 l11 l13 l15 l17 l18 l19 : Bool} {v4 v7 v8 v9 v12 v13 v14 v16 v18 v20 v21 : Value} {W W' : World}
theorem PI.move (h : PI w v t b n P R C Z l1 l4 l5 l6 l9 l10 l11 l13 l15 l17 l18 l19 v4 v7 v8 v9 v12 v13 v14 v16 v18 v20 v21 W) (hb : Below W.heap.size W W') : PI w v t b n P R C Z l1 l4 l5 l6 l9 l10 l11 l13 l15 l17 l18 l19 v4 v7 v8 v9 v12 v13 v14 v16 v18 v20 v21 W' where
  below := h.below.trans (Below.mono hb h.below.size)
  cell := (hb.block _ (blk_lt h.cell)).trans h.cell
  a4 := h.a4
  a16 := h.a16
  a18 := h.a18
  a20 := h.a20
  b7 := fun q1 q2 => by
    obtain ⟨g, c, e, hg, hr⟩ := h.b7 q1 q2
    exact ⟨g, c, e, Nat.lt_of_lt_of_le hg hb.size, range_below hb hg hr⟩
  b8 := fun q1 q2 => by
    obtain ⟨g, e, hg, hr⟩ := h.b8 q1 q2
    exact ⟨g, e, Nat.lt_of_lt_of_le hg hb.size, range_below hb hg hr⟩
  b9 := h.b9
  d12 := fun q1 q2 => by
    obtain ⟨g, c, e, hg, hr⟩ := h.d12 q1 q2
    exact ⟨g, c, e, Nat.lt_of_lt_of_le hg hb.size, range_below hb hg hr⟩
  d13 := fun q1 q2 => by
    obtain ⟨g, e, hg, hr⟩ := h.d13 q1 q2
    exact ⟨g, e, Nat.lt_of_lt_of_le hg hb.size, range_below hb hg hr⟩
  d14 := h.d14
  e21 := h.e21
  late := h.late
end
theorem all_listed {md : Region.Mode} {ops : Array Oper} {listed : Array Bool} (hr : Region.ready md ops listed = []) (hsz : listed.size = ops.size) (hb : ((List.range ops.size).all fun j => match ops[j]? with | none => true | some o => o.after.toList.all fun e => !(Region.binds md e) || decide (e.on < j)) = true) : ∀ j, j < ops.size → listed.getD j false = true := by
  intro j
  induction j using Nat.strongRecOn with
  | _ j ih =>
    intro hj
    refine ready_of hr (Array.getElem?_eq_getElem hj) (by omega) (List.range j) (fun k hk => ih k (by simpa using hk) (Nat.lt_trans (by simpa using hk) hj)) ?_
    have h := List.all_eq_true.1 hb j (by simpa using hj)
    rw [Array.getElem?_eq_getElem hj] at h
    refine List.all_eq_true.2 fun e he => ?_
    have h2 := List.all_eq_true.1 h e he
    simpa using h2
theorem wp_build {P : Program} {o : Oper} {a : Act} {w : World} {K : Act → World → Prop} {Q : Exit → Act → World → Prop} (t : TypeId) (parts : Array (Nat × Operand)) (ho : o.op = .build t parts) (vs : Array (Nat × Value)) (hv : parts.map (fun p => (p.1, a.eval p.2)) = vs) (cells : Array Value) (hb : P.built t vs.toList = some cells)
    (h : K (a.put o.dst (.agg cells)) w) : o.wp P a w K Q := by
  unfold Oper.wp execOp
  simp only [ho, hv, run_build w t vs cells hb, Sem.run_bind, Sem.run_pure, Result.andThen_ok]
  exact h
theorem conv_range (W : World) {p : List Int} (hb : ∀ x ∈ p, 0 ≤ x ∧ x < 256) (hl : p.length = 32) : (Lib.bytesWorld W 5 (strOfNums p)).rangeAt W.heap.size 0 (nums .u8 p) := by
  obtain ⟨ad, e, hc⟩ := C_cells (bytesW_C W hb (by rw [hl]; decide)) (by omega)
  injection e with e
  subst e
  intro j v hj
  have h := hc j v hj
  rw [Addr.add_mid] at h
  exact h
def PIv (w : World) (v t b n : Int) (P R : List Value) (C Z : Array Value) (S SP SR : ByteArray) (listed : Array Bool) (a : Act) (W : World) : Prop :=
  listed.size = 20 ∧ (∀ i ∈ [0, 2, 3, 7, 8, 12, 14, 16], listed.getD i false = true) ∧ ∃ v4 v7 v8 v9 v12 v13 v14 v16 v18 v20 v21, a = { tmps := #[.string S, undef, .pointer (some ⟨w.heap.size, 0, none⟩), .string S, v4, .string S, .string SP, v7, v8, v9, .string S, .string SR, v12, v13, v14, .string S, v16, .string S, v18, .string S, v20, v21], defers := [] } ∧ PI w v t b n P R C Z (listed.getD 1 false) (listed.getD 4 false) (listed.getD 5 false) (listed.getD 6 false) (listed.getD 9 false) (listed.getD 10 false) (listed.getD 11 false) (listed.getD 13 false) (listed.getD 15 false) (listed.getD 17 false) (listed.getD 18 false) (listed.getD 19 false) v4 v7 v8 v9 v12 v13 v14 v16 v18 v20 v21 W
theorem PIv.lo {listed : Array Bool} {i : Nat} (hsz : listed.size = 20) (hi : i < 20) (h : ∀ i ∈ [0, 2, 3, 7, 8, 12, 14, 16], listed.getD i false = true) : ∀ k ∈ [0, 2, 3, 7, 8, 12, 14, 16], (listed.setIfInBounds i true).getD k false = true := fun k hk => by
  rw [listed_set (by omega)]
  split
  · rfl
  · exact h k hk
set_option maxHeartbeats 4000000 in
theorem rparse7_calls (v : Int) (p r : List Int) (t b n : Int) (w : World) (h : HWf v p r t b n) :
    Calls Try.prog 7 #[.string (strOfNums (headB v p r t b n))] w fun e w' => e = .returned (hV v p r t b n) ∧ Below w.heap.size w w' := by
  obtain ⟨k0, k68, k72, k76⟩ := head_ats h
  obtain ⟨c1, c2⟩ := head_cut h
  have hlen := headB_len v p r t b n h.1 h.2.1
  have hby := headB_bytes v t b n h.2.2.2.2.2.2.1 h.2.2.2.2.2.2.2
  have hsz : (strOfNums (headB v p r t b n)).size = 80 := by rw [strOfNums_size, hlen]
  have HA0 := fun (u : World) => (show Calls Try.prog 13 #[.string (strOfNums (headB v p r t b n)), .int .i64 0] u fun e w' => e = .returned (.int .u32 v) ∧ Below u.heap.size u w' from by
    have h := at_calls (headB v p r t b n) 0 u (by omega) (by omega) hby
    rw [k0] at h
    exact h)
  have HA68 := fun (u : World) => (show Calls Try.prog 13 #[.string (strOfNums (headB v p r t b n)), .int .i64 68] u fun e w' => e = .returned (.int .u32 t) ∧ Below u.heap.size u w' from by
    have h := at_calls (headB v p r t b n) 68 u (by omega) (by omega) hby
    rw [k68] at h
    exact h)
  have HA72 := fun (u : World) => (show Calls Try.prog 13 #[.string (strOfNums (headB v p r t b n)), .int .i64 72] u fun e w' => e = .returned (.int .u32 b) ∧ Below u.heap.size u w' from by
    have h := at_calls (headB v p r t b n) 72 u (by omega) (by omega) hby
    rw [k72] at h
    exact h)
  have HA76 := fun (u : World) => (show Calls Try.prog 13 #[.string (strOfNums (headB v p r t b n)), .int .i64 76] u fun e w' => e = .returned (.int .u32 n) ∧ Below u.heap.size u w' from by
    have h := at_calls (headB v p r t b n) 76 u (by omega) (by omega) hby
    rw [k76] at h
    exact h)
  obtain ⟨S, hS⟩ : ∃ S, strOfNums (headB v p r t b n) = S := ⟨_, rfl⟩
  rw [hS] at c1 c2 hsz HA0 HA68 HA72 HA76 ⊢
  have HAT0 := Lib.hid HA0
  have HAT68 := Lib.hid HA68
  have HAT72 := Lib.hid HA72
  have HAT76 := Lib.hid HA76
  clear HA0 HA68 HA72 HA76
  have hbr := built_ref v p r t b n h.1 h.2.1
  have hz := (zero_of_info infoR).1
  have hsize : (Try.prog.info? 33).map (·.size) = some (hcells v p r t b n).toArray.size := by
    rw [(zero_of_info infoR).2]
    simp [hcells_len v p r t b n h.1 h.2.1]
  have hone := hcells_one v p r t b n
  have hzs : (hcells 0 z32 z32 0 0 0).toArray.size = (hcells v p r t b n).toArray.size := by
    simp [hcells_len v p r t b n h.1 h.2.1, hcells_len 0 z32 z32 0 0 0 (by simp [z32]) (by simp [z32])]
  have hrp := fun W : World => conv_range W h.2.2.2.2.2.2.1 h.1
  have hrr := fun W : World => conv_range W h.2.2.2.2.2.2.2 h.2.1
  have hcp := fun W : World => Lib.run_convert_string_bytes (P := Try.prog) W 9 22 5 (strOfNums p) Try.underlying9 Try.underlying22 Try.underlying5
  have hcr := fun W : World => Lib.run_convert_string_bytes (P := Try.prog) W 9 22 5 (strOfNums r) Try.underlying9 Try.underlying22 Try.underlying5
  have hl1 : (nums .u8 p).length = 32 := by simp [nums, h.1]
  have hl2 : (nums .u8 r).length = 32 := by simp [nums, h.2.1]
  have hpl := h.1
  have hrl := h.2.1
  obtain ⟨SP, hSP⟩ : ∃ S, strOfNums p = S := ⟨_, rfl⟩
  obtain ⟨SR, hSR⟩ : ∃ S, strOfNums r = S := ⟨_, rfl⟩
  have hsp : SP.size = 32 := by rw [← hSP, strOfNums_size]; exact hpl
  have hsr : SR.size = 32 := by rw [← hSR, strOfNums_size]; exact hrl
  rw [hSP] at hrp hcp
  rw [hSR] at hrr hcr
  simp only [hsp] at hcp
  simp only [hsr] at hcr
  unfold hV
  obtain ⟨C, hC⟩ : ∃ C, (hcells v p r t b n).toArray = C := ⟨_, rfl⟩
  obtain ⟨Z, hZ⟩ : ∃ C, (hcells 0 z32 z32 0 0 0).toArray = C := ⟨_, rfl⟩
  obtain ⟨P, hP⟩ : ∃ C, nums .u8 p = C := ⟨_, rfl⟩
  obtain ⟨R, hR⟩ : ∃ C, nums .u8 r = C := ⟨_, rfl⟩
  rw [hP, hR, hC] at hbr
  rw [hZ] at hz
  rw [hC] at hsize hone
  rw [hC, hZ] at hzs
  rw [hP] at hl1 hrp
  rw [hR] at hl2 hrr
  rw [hC]
  rw [hSP] at c1
  rw [hSR] at c2
  have HX := Lib.hid (And.intro hbr (And.intro hsize (And.intro hone (And.intro hzs (And.intro (heap_alloc_new w (.cells Z 33)) (And.intro hl1 hl2))))))
  have HRG := Lib.hid (And.intro hrp hrr)
  have HU := Lib.hid (And.intro Try.underlying25 (And.intro (show (Try.prog.info? 25).map (·.size) = some P.length by rw [hl1]; exact (zero_of_info infoA).2) (show (Try.prog.info? 25).map (·.size) = some R.length by rw [hl2]; exact (zero_of_info infoA).2)))
  have HUR := Lib.hid Try.underlying33
  clear hrp hrr
  have HB0 := Lib.hid (below_alloc (Below.refl w.heap.size w) (.cells Z 33))
  have HK := Lib.hid (And.intro k0 (And.intro k68 (And.intro k72 k76)))
  have HPP := Lib.hid (And.intro hP (And.intro hR (And.intro hSP (And.intro hSR (And.intro hpl hrl)))))
  clear hbr hsize hone hzs hl1 hl2 hC hZ hP hR hSP hSR hpl hrl h hlen hby k0 k68 k72 k76 hS
  go_enter Try.func7, Try.ntmps7
  go_wp2_with fail
  have hHeld : True := trivial
  refine wp_region_held (S := fun u => True) (by kernel_rfl) ?_
  change wpAnyH _ _ _ _ _ _ _ _ (World.drew _)
  refine wpAnyH_take (i := 0) (oi := ({ dst := some 3, op := Op.move (Operand.tmp 0), type := 9, pos := "ref.go:26", after := #[], guard := none } : Oper)) (v := .string S) rfl (by kernel_rfl) (by kernel_rfl) (by kernel_rfl) (fun _ _ _ h => h) (Or.inl ⟨by rfl, fun w hSw => by go_simp⟩) hHeld ?_
  simp only [Act.put, List.setIfInBounds_toArray, List.set_cons_zero, List.set_cons_succ]
  refine wpAnyH_take (i := 2) (oi := ({ dst := some 5, op := Op.move (Operand.tmp 0), type := 9, pos := "ref.go:26", after := #[], guard := none } : Oper)) (v := .string S) rfl (by kernel_rfl) (by kernel_rfl) (by kernel_rfl) (fun _ _ _ h => h) (Or.inl ⟨by rfl, fun w hSw => by go_simp⟩) hHeld ?_
  simp only [Act.put, List.setIfInBounds_toArray, List.set_cons_zero, List.set_cons_succ]
  refine wpAnyH_take (i := 3) (oi := ({ dst := some 6, op := Op.slice 9 (Operand.tmp 5) (some (Operand.const (Value.int IntKind.i64 4))) (some (Operand.const (Value.int IntKind.i64 36))) none, type := 9, pos := "ref.go:26", after := #[{ on := 2, ground := Ground.data }], guard := none } : Oper)) (v := .string SP) rfl (by kernel_rfl) (by kernel_rfl) (by kernel_rfl) (fun _ _ _ h => h) (Or.inl ⟨by rfl, fun w hSw => by go_simp⟩) hHeld ?_
  simp only [Act.put, List.setIfInBounds_toArray, List.set_cons_zero, List.set_cons_succ]
  refine wpAnyH_take (i := 7) (oi := ({ dst := some 10, op := Op.move (Operand.tmp 0), type := 9, pos := "ref.go:26", after := #[], guard := none } : Oper)) (v := .string S) rfl (by kernel_rfl) (by kernel_rfl) (by kernel_rfl) (fun _ _ _ h => h) (Or.inl ⟨by rfl, fun w hSw => by go_simp⟩) hHeld ?_
  simp only [Act.put, List.setIfInBounds_toArray, List.set_cons_zero, List.set_cons_succ]
  refine wpAnyH_take (i := 8) (oi := ({ dst := some 11, op := Op.slice 9 (Operand.tmp 10) (some (Operand.const (Value.int IntKind.i64 36))) (some (Operand.const (Value.int IntKind.i64 68))) none, type := 9, pos := "ref.go:26", after := #[{ on := 7, ground := Ground.data }], guard := none } : Oper)) (v := .string SR) rfl (by kernel_rfl) (by kernel_rfl) (by kernel_rfl) (fun _ _ _ h => h) (Or.inl ⟨by rfl, fun w hSw => by go_simp⟩) hHeld ?_
  simp only [Act.put, List.setIfInBounds_toArray, List.set_cons_zero, List.set_cons_succ]
  refine wpAnyH_take (i := 12) (oi := ({ dst := some 15, op := Op.move (Operand.tmp 0), type := 9, pos := "ref.go:26", after := #[], guard := none } : Oper)) (v := .string S) rfl (by kernel_rfl) (by kernel_rfl) (by kernel_rfl) (fun _ _ _ h => h) (Or.inl ⟨by rfl, fun w hSw => by go_simp⟩) hHeld ?_
  simp only [Act.put, List.setIfInBounds_toArray, List.set_cons_zero, List.set_cons_succ]
  refine wpAnyH_take (i := 14) (oi := ({ dst := some 17, op := Op.move (Operand.tmp 0), type := 9, pos := "ref.go:26", after := #[], guard := none } : Oper)) (v := .string S) rfl (by kernel_rfl) (by kernel_rfl) (by kernel_rfl) (fun _ _ _ h => h) (Or.inl ⟨by rfl, fun w hSw => by go_simp⟩) hHeld ?_
  simp only [Act.put, List.setIfInBounds_toArray, List.set_cons_zero, List.set_cons_succ]
  refine wpAnyH_take (i := 16) (oi := ({ dst := some 19, op := Op.move (Operand.tmp 0), type := 9, pos := "ref.go:26", after := #[], guard := none } : Oper)) (v := .string S) rfl (by kernel_rfl) (by kernel_rfl) (by kernel_rfl) (fun _ _ _ h => h) (Or.inl ⟨by rfl, fun w hSw => by go_simp⟩) hHeld ?_
  simp only [Act.put, List.setIfInBounds_toArray, List.set_cons_zero, List.set_cons_succ]
  refine wpAnyH_inv (PIv w v t b n P R C Z S SP SR) (fun _ _ _ _ => trivial) ?hend ?hstep _ _ _ _ (by decide) ?h0
  case h0 =>
    refine ⟨rfl, by decide, _, _, _, _, _, _, _, _, _, _, _, rfl, ?_⟩
    exact { below := below_drew HB0.out, cell := HX.out.2.2.2.2.1, a4 := fun q => (by cases q), a16 := fun q => (by cases q), a18 := fun q => (by cases q), a20 := fun q => (by cases q), b7 := fun _ q => (by cases q), b8 := fun _ q => (by cases q), b9 := fun q => (by cases q), d12 := fun _ q => (by cases q), d13 := fun _ q => (by cases q), d14 := fun q => (by cases q), e21 := fun q => (by cases q), late := fun q => (by cases q) }
  case hend =>
    rintro listed a W ⟨hsz, hlo, v4, v7, v8, v9, v12, v13, v14, v16, v18, v20, v21, rfl, hT⟩ hr
    have l19 := all_listed hr hsz (by kernel_rfl) 19 (by show 19 < 20; omega)
    rw [l19] at hT
    have hcell := hT.cell
    rw [if_pos rfl] at hcell
    have HC := Lib.hid hcell
    have HBE := Lib.hid hT.below
    clear hT hcell hr hsz hlo
    go_wp2_with fail
    exact bodyPost_ret (results_cell_row rfl _ _ w.heap.size 33 C (0, 0) _ rfl HC.out HUR.out rfl HX.out.2.1) rfl ⟨rfl, HBE.out⟩
  case hstep =>
    rintro listed a W i ⟨hsz, hlo, v4, v7, v8, v9, v12, v13, v14, v16, v18, v20, v21, rfl, hT⟩ hi
    have hlt : i < 20 := (ready_lt hi).1
    have hun := unlisted_of hi
    have hne : ¬ i ∈ [0, 2, 3, 7, 8, 12, 14, 16] := fun hc => by
      rw [hlo i hc] at hun
      cases hun
    have hci : i = 1 ∨ i = 4 ∨ i = 5 ∨ i = 6 ∨ i = 9 ∨ i = 10 ∨ i = 11 ∨ i = 13 ∨ i = 15 ∨ i = 17 ∨ i = 18 ∨ i = 19 := by
      simp at hne
      omega
    obtain rfl | rfl | rfl | rfl | rfl | rfl | rfl | rfl | rfl | rfl | rfl | rfl := hci
    · have h19 : listed.getD 19 false = false := by
        cases q : listed.getD 19 false with
        | false => rfl
        | true => have hl := hT.late q; rw [hun] at hl; simp at hl
      refine wpOp_of (o := ({ dst := some 4, op := Op.call { callee := Callee.value (Operand.func 13), args := #[Operand.tmp 3, Operand.const (Value.int IntKind.i64 0)], argTypes := #[9, 3] }, type := 24, pos := "ref.go:26", after := #[{ on := 0, ground := Ground.data }], guard := none } : Oper)) rfl rfl ?_
      go_simp
      (with_reducible refine (HAT0.out W).mono ?_)
      rintro e W' ⟨rfl, hb⟩
      refine ⟨by simp [hsz], PIv.lo hsz (by omega) hlo, _, _, _, _, _, _, _, _, _, _, _, rfl, ?_⟩
      simp only [listed_set (show 1 < listed.size by omega)]
      rw [h19] at hT ⊢
      exact { hT.move hb with a4 := fun _ => rfl, late := fun q => (by cases q) }
    · have h19 : listed.getD 19 false = false := by
        cases q : listed.getD 19 false with
        | false => rfl
        | true => have hl := hT.late q; rw [hun] at hl; simp at hl
      refine wpOp_of (o := ({ dst := some 7, op := Op.convert 9 22 (Operand.tmp 6), type := 22, pos := "ref.go:26", after := #[{ on := 3, ground := Ground.data }], guard := none } : Oper)) rfl rfl ?_
      go_simp
      refine ⟨by simp [hsz], PIv.lo hsz (by omega) hlo, _, _, _, _, _, _, _, _, _, _, _, rfl, ?_⟩
      simp only [listed_set (show 4 < listed.size by omega)]
      rw [h19] at hT ⊢
      exact { hT.move (bytesW_below W SP) with b7 := fun _ _ => ⟨W.heap.size, _, rfl, by rw [Lib.bytesWorld_size]; omega, HRG.out.1 W⟩, late := fun q => (by cases q) }
    · have h19 : listed.getD 19 false = false := by
        cases q : listed.getD 19 false with
        | false => rfl
        | true => have hl := hT.late q; rw [hun] at hl; simp at hl
      have l4 := waits_of (o := ({ dst := some 8, op := Op.sliceToArrayPointer 25 (Operand.tmp 7), type := 0, pos := "ref.go:26", after := #[{ on := 4, ground := Ground.data }], guard := none } : Oper)) hi rfl 4 (by kernel_rfl)
      obtain ⟨g, c, rfl, hg, hr⟩ := hT.b7 h19 l4
      have hu := HU.out.1
      refine wpOp_of (o := ({ dst := some 8, op := Op.sliceToArrayPointer 25 (Operand.tmp 7), type := 0, pos := "ref.go:26", after := #[{ on := 4, ground := Ground.data }], guard := none } : Oper)) rfl rfl ?_
      go_simp
      refine ⟨by simp [hsz], PIv.lo hsz (by omega) hlo, _, _, _, _, _, _, _, _, _, _, _, rfl, ?_⟩
      simp only [listed_set (show 5 < listed.size by omega)]
      rw [h19] at hT ⊢
      exact { hT with b8 := fun _ _ => ⟨g, rfl, hg, hr⟩, late := fun q => (by cases q) }
    · have h19 : listed.getD 19 false = false := by
        cases q : listed.getD 19 false with
        | false => rfl
        | true => have hl := hT.late q; rw [hun] at hl; simp at hl
      have l5 := waits_of (o := ({ dst := some 9, op := Op.load 25 (Operand.tmp 8), type := 25, pos := "ref.go:26", after := #[{ on := 5, ground := Ground.data }], guard := none } : Oper)) hi rfl 5 (by kernel_rfl)
      obtain ⟨g, rfl, hg, hr⟩ := hT.b8 h19 l5
      refine wpOp_of (o := ({ dst := some 9, op := Op.load 25 (Operand.tmp 8), type := 25, pos := "ref.go:26", after := #[{ on := 5, ground := Ground.data }], guard := none } : Oper)) rfl rfl ?_
      refine wp_load_mid 25 (.tmp 8) rfl g 0 (by rfl) P _ hr HU.out.1 rfl HU.out.2.1 ?_
      refine ⟨by simp [hsz], PIv.lo hsz (by omega) hlo, _, _, _, _, _, _, _, _, _, _, _, rfl, ?_⟩
      simp only [listed_set (show 6 < listed.size by omega)]
      rw [h19] at hT ⊢
      exact { hT with b9 := fun _ => rfl, late := fun q => (by cases q) }
    · have h19 : listed.getD 19 false = false := by
        cases q : listed.getD 19 false with
        | false => rfl
        | true => have hl := hT.late q; rw [hun] at hl; simp at hl
      refine wpOp_of (o := ({ dst := some 12, op := Op.convert 9 22 (Operand.tmp 11), type := 22, pos := "ref.go:26", after := #[{ on := 8, ground := Ground.data }], guard := none } : Oper)) rfl rfl ?_
      go_simp
      refine ⟨by simp [hsz], PIv.lo hsz (by omega) hlo, _, _, _, _, _, _, _, _, _, _, _, rfl, ?_⟩
      simp only [listed_set (show 9 < listed.size by omega)]
      rw [h19] at hT ⊢
      exact { hT.move (bytesW_below W SR) with d12 := fun _ _ => ⟨W.heap.size, _, rfl, by rw [Lib.bytesWorld_size]; omega, HRG.out.2 W⟩, late := fun q => (by cases q) }
    · have h19 : listed.getD 19 false = false := by
        cases q : listed.getD 19 false with
        | false => rfl
        | true => have hl := hT.late q; rw [hun] at hl; simp at hl
      have l9 := waits_of (o := ({ dst := some 13, op := Op.sliceToArrayPointer 25 (Operand.tmp 12), type := 0, pos := "ref.go:26", after := #[{ on := 9, ground := Ground.data }], guard := none } : Oper)) hi rfl 9 (by kernel_rfl)
      obtain ⟨g, c, rfl, hg, hr⟩ := hT.d12 h19 l9
      have hu := HU.out.1
      refine wpOp_of (o := ({ dst := some 13, op := Op.sliceToArrayPointer 25 (Operand.tmp 12), type := 0, pos := "ref.go:26", after := #[{ on := 9, ground := Ground.data }], guard := none } : Oper)) rfl rfl ?_
      go_simp
      refine ⟨by simp [hsz], PIv.lo hsz (by omega) hlo, _, _, _, _, _, _, _, _, _, _, _, rfl, ?_⟩
      simp only [listed_set (show 10 < listed.size by omega)]
      rw [h19] at hT ⊢
      exact { hT with d13 := fun _ _ => ⟨g, rfl, hg, hr⟩, late := fun q => (by cases q) }
    · have h19 : listed.getD 19 false = false := by
        cases q : listed.getD 19 false with
        | false => rfl
        | true => have hl := hT.late q; rw [hun] at hl; simp at hl
      have l10 := waits_of (o := ({ dst := some 14, op := Op.load 25 (Operand.tmp 13), type := 25, pos := "ref.go:26", after := #[{ on := 10, ground := Ground.data }], guard := none } : Oper)) hi rfl 10 (by kernel_rfl)
      obtain ⟨g, rfl, hg, hr⟩ := hT.d13 h19 l10
      refine wpOp_of (o := ({ dst := some 14, op := Op.load 25 (Operand.tmp 13), type := 25, pos := "ref.go:26", after := #[{ on := 10, ground := Ground.data }], guard := none } : Oper)) rfl rfl ?_
      refine wp_load_mid 25 (.tmp 13) rfl g 0 (by rfl) R _ hr HU.out.1 rfl HU.out.2.2 ?_
      refine ⟨by simp [hsz], PIv.lo hsz (by omega) hlo, _, _, _, _, _, _, _, _, _, _, _, rfl, ?_⟩
      simp only [listed_set (show 11 < listed.size by omega)]
      rw [h19] at hT ⊢
      exact { hT with d14 := fun _ => rfl, late := fun q => (by cases q) }
    · have h19 : listed.getD 19 false = false := by
        cases q : listed.getD 19 false with
        | false => rfl
        | true => have hl := hT.late q; rw [hun] at hl; simp at hl
      refine wpOp_of (o := ({ dst := some 16, op := Op.call { callee := Callee.value (Operand.func 13), args := #[Operand.tmp 15, Operand.const (Value.int IntKind.i64 68)], argTypes := #[9, 3] }, type := 24, pos := "ref.go:26", after := #[{ on := 12, ground := Ground.data }, { on := 1, ground := Ground.chain }], guard := none } : Oper)) rfl rfl ?_
      go_simp
      (with_reducible refine (HAT68.out W).mono ?_)
      rintro e W' ⟨rfl, hb⟩
      refine ⟨by simp [hsz], PIv.lo hsz (by omega) hlo, _, _, _, _, _, _, _, _, _, _, _, rfl, ?_⟩
      simp only [listed_set (show 13 < listed.size by omega)]
      rw [h19] at hT ⊢
      exact { hT.move hb with a16 := fun _ => rfl, late := fun q => (by cases q) }
    · have h19 : listed.getD 19 false = false := by
        cases q : listed.getD 19 false with
        | false => rfl
        | true => have hl := hT.late q; rw [hun] at hl; simp at hl
      refine wpOp_of (o := ({ dst := some 18, op := Op.call { callee := Callee.value (Operand.func 13), args := #[Operand.tmp 17, Operand.const (Value.int IntKind.i64 72)], argTypes := #[9, 3] }, type := 24, pos := "ref.go:26", after := #[{ on := 14, ground := Ground.data }, { on := 13, ground := Ground.chain }], guard := none } : Oper)) rfl rfl ?_
      go_simp
      (with_reducible refine (HAT72.out W).mono ?_)
      rintro e W' ⟨rfl, hb⟩
      refine ⟨by simp [hsz], PIv.lo hsz (by omega) hlo, _, _, _, _, _, _, _, _, _, _, _, rfl, ?_⟩
      simp only [listed_set (show 15 < listed.size by omega)]
      rw [h19] at hT ⊢
      exact { hT.move hb with a18 := fun _ => rfl, late := fun q => (by cases q) }
    · have h19 : listed.getD 19 false = false := by
        cases q : listed.getD 19 false with
        | false => rfl
        | true => have hl := hT.late q; rw [hun] at hl; simp at hl
      refine wpOp_of (o := ({ dst := some 20, op := Op.call { callee := Callee.value (Operand.func 13), args := #[Operand.tmp 19, Operand.const (Value.int IntKind.i64 76)], argTypes := #[9, 3] }, type := 24, pos := "ref.go:26", after := #[{ on := 16, ground := Ground.data }, { on := 15, ground := Ground.chain }], guard := none } : Oper)) rfl rfl ?_
      go_simp
      (with_reducible refine (HAT76.out W).mono ?_)
      rintro e W' ⟨rfl, hb⟩
      refine ⟨by simp [hsz], PIv.lo hsz (by omega) hlo, _, _, _, _, _, _, _, _, _, _, _, rfl, ?_⟩
      simp only [listed_set (show 17 < listed.size by omega)]
      rw [h19] at hT ⊢
      exact { hT.move hb with a20 := fun _ => rfl, late := fun q => (by cases q) }
    · have h19 : listed.getD 19 false = false := by
        cases q : listed.getD 19 false with
        | false => rfl
        | true => have hl := hT.late q; rw [hun] at hl; simp at hl
      have l1 := waits_of (o := ({ dst := some 21, op := Op.build 33 #[(0, Operand.tmp 4), (1, Operand.tmp 9), (2, Operand.tmp 14), (3, Operand.tmp 16), (4, Operand.tmp 18), (5, Operand.tmp 20)], type := 33, pos := "ref.go:26", after := #[{ on := 1, ground := Ground.data }, { on := 6, ground := Ground.data }, { on := 11, ground := Ground.data }, { on := 13, ground := Ground.data }, { on := 15, ground := Ground.data }, { on := 17, ground := Ground.data }], guard := none } : Oper)) hi rfl 1 (by kernel_rfl)
      have l6 := waits_of (o := ({ dst := some 21, op := Op.build 33 #[(0, Operand.tmp 4), (1, Operand.tmp 9), (2, Operand.tmp 14), (3, Operand.tmp 16), (4, Operand.tmp 18), (5, Operand.tmp 20)], type := 33, pos := "ref.go:26", after := #[{ on := 1, ground := Ground.data }, { on := 6, ground := Ground.data }, { on := 11, ground := Ground.data }, { on := 13, ground := Ground.data }, { on := 15, ground := Ground.data }, { on := 17, ground := Ground.data }], guard := none } : Oper)) hi rfl 6 (by kernel_rfl)
      have l11 := waits_of (o := ({ dst := some 21, op := Op.build 33 #[(0, Operand.tmp 4), (1, Operand.tmp 9), (2, Operand.tmp 14), (3, Operand.tmp 16), (4, Operand.tmp 18), (5, Operand.tmp 20)], type := 33, pos := "ref.go:26", after := #[{ on := 1, ground := Ground.data }, { on := 6, ground := Ground.data }, { on := 11, ground := Ground.data }, { on := 13, ground := Ground.data }, { on := 15, ground := Ground.data }, { on := 17, ground := Ground.data }], guard := none } : Oper)) hi rfl 11 (by kernel_rfl)
      have l13 := waits_of (o := ({ dst := some 21, op := Op.build 33 #[(0, Operand.tmp 4), (1, Operand.tmp 9), (2, Operand.tmp 14), (3, Operand.tmp 16), (4, Operand.tmp 18), (5, Operand.tmp 20)], type := 33, pos := "ref.go:26", after := #[{ on := 1, ground := Ground.data }, { on := 6, ground := Ground.data }, { on := 11, ground := Ground.data }, { on := 13, ground := Ground.data }, { on := 15, ground := Ground.data }, { on := 17, ground := Ground.data }], guard := none } : Oper)) hi rfl 13 (by kernel_rfl)
      have l15 := waits_of (o := ({ dst := some 21, op := Op.build 33 #[(0, Operand.tmp 4), (1, Operand.tmp 9), (2, Operand.tmp 14), (3, Operand.tmp 16), (4, Operand.tmp 18), (5, Operand.tmp 20)], type := 33, pos := "ref.go:26", after := #[{ on := 1, ground := Ground.data }, { on := 6, ground := Ground.data }, { on := 11, ground := Ground.data }, { on := 13, ground := Ground.data }, { on := 15, ground := Ground.data }, { on := 17, ground := Ground.data }], guard := none } : Oper)) hi rfl 15 (by kernel_rfl)
      have l17 := waits_of (o := ({ dst := some 21, op := Op.build 33 #[(0, Operand.tmp 4), (1, Operand.tmp 9), (2, Operand.tmp 14), (3, Operand.tmp 16), (4, Operand.tmp 18), (5, Operand.tmp 20)], type := 33, pos := "ref.go:26", after := #[{ on := 1, ground := Ground.data }, { on := 6, ground := Ground.data }, { on := 11, ground := Ground.data }, { on := 13, ground := Ground.data }, { on := 15, ground := Ground.data }, { on := 17, ground := Ground.data }], guard := none } : Oper)) hi rfl 17 (by kernel_rfl)
      obtain rfl := hT.a4 l1
      obtain rfl := hT.b9 l6
      obtain rfl := hT.d14 l11
      obtain rfl := hT.a16 l13
      obtain rfl := hT.a18 l15
      obtain rfl := hT.a20 l17
      refine wpOp_of (o := ({ dst := some 21, op := Op.build 33 #[(0, Operand.tmp 4), (1, Operand.tmp 9), (2, Operand.tmp 14), (3, Operand.tmp 16), (4, Operand.tmp 18), (5, Operand.tmp 20)], type := 33, pos := "ref.go:26", after := #[{ on := 1, ground := Ground.data }, { on := 6, ground := Ground.data }, { on := 11, ground := Ground.data }, { on := 13, ground := Ground.data }, { on := 15, ground := Ground.data }, { on := 17, ground := Ground.data }], guard := none } : Oper)) rfl rfl ?_
      refine wp_build 33 _ rfl #[(0, .int .u32 v), (1, .agg P.toArray), (2, .agg R.toArray), (3, .int .u32 t), (4, .int .u32 b), (5, .int .u32 n)] (by simp [Act.eval]) C HX.out.1 ?_
      refine ⟨by simp [hsz], PIv.lo hsz (by omega) hlo, _, _, _, _, _, _, _, _, _, _, _, rfl, ?_⟩
      simp only [listed_set (show 18 < listed.size by omega)]
      rw [h19] at hT ⊢
      exact { hT with e21 := fun _ => rfl, late := fun q => (by cases q) }
    · have l1 := waits_of (o := ({ dst := none, op := Op.store 33 (Operand.tmp 2) (Operand.tmp 21), type := 0, pos := "ref.go:26", after := #[{ on := 18, ground := Ground.data }, { on := 17, ground := Ground.chain }, { on := 0, ground := Ground.phase }, { on := 1, ground := Ground.phase }, { on := 2, ground := Ground.phase }, { on := 3, ground := Ground.phase }, { on := 4, ground := Ground.phase }, { on := 5, ground := Ground.phase }, { on := 6, ground := Ground.phase }, { on := 7, ground := Ground.phase }, { on := 8, ground := Ground.phase }, { on := 9, ground := Ground.phase }, { on := 10, ground := Ground.phase }, { on := 11, ground := Ground.phase }, { on := 12, ground := Ground.phase }, { on := 13, ground := Ground.phase }, { on := 14, ground := Ground.phase }, { on := 15, ground := Ground.phase }, { on := 16, ground := Ground.phase }, { on := 17, ground := Ground.phase }, { on := 18, ground := Ground.phase }], guard := none } : Oper)) hi rfl 1 (by kernel_rfl)
      have l4 := waits_of (o := ({ dst := none, op := Op.store 33 (Operand.tmp 2) (Operand.tmp 21), type := 0, pos := "ref.go:26", after := #[{ on := 18, ground := Ground.data }, { on := 17, ground := Ground.chain }, { on := 0, ground := Ground.phase }, { on := 1, ground := Ground.phase }, { on := 2, ground := Ground.phase }, { on := 3, ground := Ground.phase }, { on := 4, ground := Ground.phase }, { on := 5, ground := Ground.phase }, { on := 6, ground := Ground.phase }, { on := 7, ground := Ground.phase }, { on := 8, ground := Ground.phase }, { on := 9, ground := Ground.phase }, { on := 10, ground := Ground.phase }, { on := 11, ground := Ground.phase }, { on := 12, ground := Ground.phase }, { on := 13, ground := Ground.phase }, { on := 14, ground := Ground.phase }, { on := 15, ground := Ground.phase }, { on := 16, ground := Ground.phase }, { on := 17, ground := Ground.phase }, { on := 18, ground := Ground.phase }], guard := none } : Oper)) hi rfl 4 (by kernel_rfl)
      have l5 := waits_of (o := ({ dst := none, op := Op.store 33 (Operand.tmp 2) (Operand.tmp 21), type := 0, pos := "ref.go:26", after := #[{ on := 18, ground := Ground.data }, { on := 17, ground := Ground.chain }, { on := 0, ground := Ground.phase }, { on := 1, ground := Ground.phase }, { on := 2, ground := Ground.phase }, { on := 3, ground := Ground.phase }, { on := 4, ground := Ground.phase }, { on := 5, ground := Ground.phase }, { on := 6, ground := Ground.phase }, { on := 7, ground := Ground.phase }, { on := 8, ground := Ground.phase }, { on := 9, ground := Ground.phase }, { on := 10, ground := Ground.phase }, { on := 11, ground := Ground.phase }, { on := 12, ground := Ground.phase }, { on := 13, ground := Ground.phase }, { on := 14, ground := Ground.phase }, { on := 15, ground := Ground.phase }, { on := 16, ground := Ground.phase }, { on := 17, ground := Ground.phase }, { on := 18, ground := Ground.phase }], guard := none } : Oper)) hi rfl 5 (by kernel_rfl)
      have l6 := waits_of (o := ({ dst := none, op := Op.store 33 (Operand.tmp 2) (Operand.tmp 21), type := 0, pos := "ref.go:26", after := #[{ on := 18, ground := Ground.data }, { on := 17, ground := Ground.chain }, { on := 0, ground := Ground.phase }, { on := 1, ground := Ground.phase }, { on := 2, ground := Ground.phase }, { on := 3, ground := Ground.phase }, { on := 4, ground := Ground.phase }, { on := 5, ground := Ground.phase }, { on := 6, ground := Ground.phase }, { on := 7, ground := Ground.phase }, { on := 8, ground := Ground.phase }, { on := 9, ground := Ground.phase }, { on := 10, ground := Ground.phase }, { on := 11, ground := Ground.phase }, { on := 12, ground := Ground.phase }, { on := 13, ground := Ground.phase }, { on := 14, ground := Ground.phase }, { on := 15, ground := Ground.phase }, { on := 16, ground := Ground.phase }, { on := 17, ground := Ground.phase }, { on := 18, ground := Ground.phase }], guard := none } : Oper)) hi rfl 6 (by kernel_rfl)
      have l9 := waits_of (o := ({ dst := none, op := Op.store 33 (Operand.tmp 2) (Operand.tmp 21), type := 0, pos := "ref.go:26", after := #[{ on := 18, ground := Ground.data }, { on := 17, ground := Ground.chain }, { on := 0, ground := Ground.phase }, { on := 1, ground := Ground.phase }, { on := 2, ground := Ground.phase }, { on := 3, ground := Ground.phase }, { on := 4, ground := Ground.phase }, { on := 5, ground := Ground.phase }, { on := 6, ground := Ground.phase }, { on := 7, ground := Ground.phase }, { on := 8, ground := Ground.phase }, { on := 9, ground := Ground.phase }, { on := 10, ground := Ground.phase }, { on := 11, ground := Ground.phase }, { on := 12, ground := Ground.phase }, { on := 13, ground := Ground.phase }, { on := 14, ground := Ground.phase }, { on := 15, ground := Ground.phase }, { on := 16, ground := Ground.phase }, { on := 17, ground := Ground.phase }, { on := 18, ground := Ground.phase }], guard := none } : Oper)) hi rfl 9 (by kernel_rfl)
      have l10 := waits_of (o := ({ dst := none, op := Op.store 33 (Operand.tmp 2) (Operand.tmp 21), type := 0, pos := "ref.go:26", after := #[{ on := 18, ground := Ground.data }, { on := 17, ground := Ground.chain }, { on := 0, ground := Ground.phase }, { on := 1, ground := Ground.phase }, { on := 2, ground := Ground.phase }, { on := 3, ground := Ground.phase }, { on := 4, ground := Ground.phase }, { on := 5, ground := Ground.phase }, { on := 6, ground := Ground.phase }, { on := 7, ground := Ground.phase }, { on := 8, ground := Ground.phase }, { on := 9, ground := Ground.phase }, { on := 10, ground := Ground.phase }, { on := 11, ground := Ground.phase }, { on := 12, ground := Ground.phase }, { on := 13, ground := Ground.phase }, { on := 14, ground := Ground.phase }, { on := 15, ground := Ground.phase }, { on := 16, ground := Ground.phase }, { on := 17, ground := Ground.phase }, { on := 18, ground := Ground.phase }], guard := none } : Oper)) hi rfl 10 (by kernel_rfl)
      have l11 := waits_of (o := ({ dst := none, op := Op.store 33 (Operand.tmp 2) (Operand.tmp 21), type := 0, pos := "ref.go:26", after := #[{ on := 18, ground := Ground.data }, { on := 17, ground := Ground.chain }, { on := 0, ground := Ground.phase }, { on := 1, ground := Ground.phase }, { on := 2, ground := Ground.phase }, { on := 3, ground := Ground.phase }, { on := 4, ground := Ground.phase }, { on := 5, ground := Ground.phase }, { on := 6, ground := Ground.phase }, { on := 7, ground := Ground.phase }, { on := 8, ground := Ground.phase }, { on := 9, ground := Ground.phase }, { on := 10, ground := Ground.phase }, { on := 11, ground := Ground.phase }, { on := 12, ground := Ground.phase }, { on := 13, ground := Ground.phase }, { on := 14, ground := Ground.phase }, { on := 15, ground := Ground.phase }, { on := 16, ground := Ground.phase }, { on := 17, ground := Ground.phase }, { on := 18, ground := Ground.phase }], guard := none } : Oper)) hi rfl 11 (by kernel_rfl)
      have l13 := waits_of (o := ({ dst := none, op := Op.store 33 (Operand.tmp 2) (Operand.tmp 21), type := 0, pos := "ref.go:26", after := #[{ on := 18, ground := Ground.data }, { on := 17, ground := Ground.chain }, { on := 0, ground := Ground.phase }, { on := 1, ground := Ground.phase }, { on := 2, ground := Ground.phase }, { on := 3, ground := Ground.phase }, { on := 4, ground := Ground.phase }, { on := 5, ground := Ground.phase }, { on := 6, ground := Ground.phase }, { on := 7, ground := Ground.phase }, { on := 8, ground := Ground.phase }, { on := 9, ground := Ground.phase }, { on := 10, ground := Ground.phase }, { on := 11, ground := Ground.phase }, { on := 12, ground := Ground.phase }, { on := 13, ground := Ground.phase }, { on := 14, ground := Ground.phase }, { on := 15, ground := Ground.phase }, { on := 16, ground := Ground.phase }, { on := 17, ground := Ground.phase }, { on := 18, ground := Ground.phase }], guard := none } : Oper)) hi rfl 13 (by kernel_rfl)
      have l15 := waits_of (o := ({ dst := none, op := Op.store 33 (Operand.tmp 2) (Operand.tmp 21), type := 0, pos := "ref.go:26", after := #[{ on := 18, ground := Ground.data }, { on := 17, ground := Ground.chain }, { on := 0, ground := Ground.phase }, { on := 1, ground := Ground.phase }, { on := 2, ground := Ground.phase }, { on := 3, ground := Ground.phase }, { on := 4, ground := Ground.phase }, { on := 5, ground := Ground.phase }, { on := 6, ground := Ground.phase }, { on := 7, ground := Ground.phase }, { on := 8, ground := Ground.phase }, { on := 9, ground := Ground.phase }, { on := 10, ground := Ground.phase }, { on := 11, ground := Ground.phase }, { on := 12, ground := Ground.phase }, { on := 13, ground := Ground.phase }, { on := 14, ground := Ground.phase }, { on := 15, ground := Ground.phase }, { on := 16, ground := Ground.phase }, { on := 17, ground := Ground.phase }, { on := 18, ground := Ground.phase }], guard := none } : Oper)) hi rfl 15 (by kernel_rfl)
      have l17 := waits_of (o := ({ dst := none, op := Op.store 33 (Operand.tmp 2) (Operand.tmp 21), type := 0, pos := "ref.go:26", after := #[{ on := 18, ground := Ground.data }, { on := 17, ground := Ground.chain }, { on := 0, ground := Ground.phase }, { on := 1, ground := Ground.phase }, { on := 2, ground := Ground.phase }, { on := 3, ground := Ground.phase }, { on := 4, ground := Ground.phase }, { on := 5, ground := Ground.phase }, { on := 6, ground := Ground.phase }, { on := 7, ground := Ground.phase }, { on := 8, ground := Ground.phase }, { on := 9, ground := Ground.phase }, { on := 10, ground := Ground.phase }, { on := 11, ground := Ground.phase }, { on := 12, ground := Ground.phase }, { on := 13, ground := Ground.phase }, { on := 14, ground := Ground.phase }, { on := 15, ground := Ground.phase }, { on := 16, ground := Ground.phase }, { on := 17, ground := Ground.phase }, { on := 18, ground := Ground.phase }], guard := none } : Oper)) hi rfl 17 (by kernel_rfl)
      have l18 := waits_of (o := ({ dst := none, op := Op.store 33 (Operand.tmp 2) (Operand.tmp 21), type := 0, pos := "ref.go:26", after := #[{ on := 18, ground := Ground.data }, { on := 17, ground := Ground.chain }, { on := 0, ground := Ground.phase }, { on := 1, ground := Ground.phase }, { on := 2, ground := Ground.phase }, { on := 3, ground := Ground.phase }, { on := 4, ground := Ground.phase }, { on := 5, ground := Ground.phase }, { on := 6, ground := Ground.phase }, { on := 7, ground := Ground.phase }, { on := 8, ground := Ground.phase }, { on := 9, ground := Ground.phase }, { on := 10, ground := Ground.phase }, { on := 11, ground := Ground.phase }, { on := 12, ground := Ground.phase }, { on := 13, ground := Ground.phase }, { on := 14, ground := Ground.phase }, { on := 15, ground := Ground.phase }, { on := 16, ground := Ground.phase }, { on := 17, ground := Ground.phase }, { on := 18, ground := Ground.phase }], guard := none } : Oper)) hi rfl 18 (by kernel_rfl)
      obtain rfl := hT.e21 l18
      rw [hun] at hT
      have hcell := hT.cell
      rw [if_neg (by decide)] at hcell
      refine wpOp_of (o := ({ dst := none, op := Op.store 33 (Operand.tmp 2) (Operand.tmp 21), type := 0, pos := "ref.go:26", after := #[{ on := 18, ground := Ground.data }, { on := 17, ground := Ground.chain }, { on := 0, ground := Ground.phase }, { on := 1, ground := Ground.phase }, { on := 2, ground := Ground.phase }, { on := 3, ground := Ground.phase }, { on := 4, ground := Ground.phase }, { on := 5, ground := Ground.phase }, { on := 6, ground := Ground.phase }, { on := 7, ground := Ground.phase }, { on := 8, ground := Ground.phase }, { on := 9, ground := Ground.phase }, { on := 10, ground := Ground.phase }, { on := 11, ground := Ground.phase }, { on := 12, ground := Ground.phase }, { on := 13, ground := Ground.phase }, { on := 14, ground := Ground.phase }, { on := 15, ground := Ground.phase }, { on := 16, ground := Ground.phase }, { on := 17, ground := Ground.phase }, { on := 18, ground := Ground.phase }], guard := none } : Oper)) rfl rfl ?_
      refine wp_store_row 33 (.tmp 2) (.tmp 21) rfl w.heap.size C (by rfl) (by rfl) 33 Z hcell HX.out.2.1 HX.out.2.2.2.1 HX.out.2.2.1 ?_
      refine ⟨by simp [hsz], PIv.lo hsz (by omega) hlo, _, _, _, _, _, _, _, _, _, _, _, rfl, ?_⟩
      simp only [listed_set (show 19 < listed.size by omega)]
      exact { below := below_setRow hT.below (Nat.le_refl _) C, cell := setRow_heap _ _ _ C _ _ hcell, a4 := hT.a4, a16 := hT.a16, a18 := hT.a18, a20 := hT.a20, b7 := fun q => (by cases q), b8 := fun q => (by cases q), b9 := hT.b9, d12 := fun q => (by cases q), d13 := fun q => (by cases q), d14 := hT.d14, e21 := hT.e21, late := fun _ => ⟨l1, l4, l5, l6, l9, l10, l11, l13, l15, l17, l18⟩ }
end Go.Proofs.Ytefnpecncacepaa.Hand

/- The law HeaderParses: walked. -/
namespace Go.Proofs.Ytefnpecncacepaa.Hand
open Go Go.RowKit Go.Proofs.Ytefnpecncacepaa.Plain Go.Proofs.Ytefnpecncacepaa.PAll Go.Proofs.YtefnpecncacepaaW.PrintWords Go.Proofs.YtefnpecncacepaaW.PrintLast Go.Proofs.YtefnpecncacepaaW.PrintMore
set_option linter.unusedVariables false
set_option linter.unusedSimpArgs false
set_option maxRecDepth 100000
attribute [local go_sem ↓] Go.wp_at_zero Go.wp_at_succ
attribute [-go_sem] loadVar storeVar
/-- Parsed of its bytes. -/
theorem hparse_back {v : Int} {p r : List Int} {t b n : Int} (h : HWf v p r t b n) (A : Option Addr) (c : Nat) (W : World) (hr : Kd.C (Kd.int .u8) W A (headB v p r t b n).length (headB v p r t b n)) (hc : (headB v p r t b n).length ≤ c) :
    Calls Try.prog 5 #[.slice A 80 c] W fun e w' => e = .returned (.tuple #[.agg (hcells v p r t b n).toArray, .int .i64 0]) ∧ Below W.heap.size W w' := by
  have hl := headB_len v p r t b n h.1 h.2.1
  have hh := hparse_calls A c (headB v p r t b n) W hr hc (headB_bytes v t b n h.2.2.2.2.2.2.1 h.2.2.2.2.2.2.2) (by rw [hl]; decide)
  obtain ⟨k0, k1, k2, k3, k4, k5, k6⟩ := head_back h
  rw [if_pos k0, k0, k1, k2, k3, k4, k5, k6, hl] at hh
  exact hh
theorem part_hashR (v : Int) (p r : List Int) (t b n : Int) (hp : p.length = 32) (hr : r.length = 32) (w : World) :
    (part 25 (hcells v p r t b n).toArray 1).run Try.prog w = .ok (.agg (nums .u8 p).toArray) w ∧ (part 25 (hcells v p r t b n).toArray 33).run Try.prog w = .ok (.agg (nums .u8 r).toArray) w := by
  obtain ⟨x0, x1, x2, x3, x4, x5, x6, x7, x8, x9, x10, x11, x12, x13, x14, x15, x16, x17, x18, x19, x20, x21, x22, x23, x24, x25, x26, x27, x28, x29, x30, x31, rfl⟩ := list32 p hp
  obtain ⟨y0, y1, y2, y3, y4, y5, y6, y7, y8, y9, y10, y11, y12, y13, y14, y15, y16, y17, y18, y19, y20, y21, y22, y23, y24, y25, y26, y27, y28, y29, y30, y31, rfl⟩ := list32 r hr
  exact ⟨by kernel_rfl, by kernel_rfl⟩
theorem refs_eq (v : Int) (p r : List Int) (t b n : Int) (hp : p.length = 32) (hr : r.length = 32) (w : World) :
    (Op.equalIn 10000 33 (.agg (hcells v p r t b n).toArray) (.agg (hcells v p r t b n).toArray)).run Try.prog w = .ok true w := by
  obtain ⟨a1, a2⟩ := part_hashR v p r t b n hp hr w
  obtain ⟨a3, a4, a5⟩ := hcells_at v p r t b n hp hr
  have eqi : ∀ x : Int, (Op.equalIn 9999 24 (.int .u32 x) (.int .u32 x)).run Try.prog w = .ok (x == x) w := fun x => run_equalIn_int w 9998 24 .u32 .u32 x x Try.underlying24
  have eqh : ∀ x : List Int, x.length = 32 → (Op.equalIn 9999 25 (.agg (nums .u8 x).toArray) (.agg (nums .u8 x).toArray)).run Try.prog w = .ok (x == x) w := fun x hx => run_equalIn_nums (P := Try.prog) w 9997 25 5 32 .u8 Try.underlying25 Try.underlying5 (fun w => by rfl) x x hx hx
  have h : (Op.equalIn 10000 33 (.agg (hcells v p r t b n).toArray) (.agg (hcells v p r t b n).toArray)).run Try.prog w = .ok (v == v && (p == p && (r == r && (t == t && (b == b && n == n))))) w := by
    refine eqA_of (d := 9999) Try.underlying33 (by kernel_rfl) ?_
    refine eqf_cons rfl (part_u32 _ _ _ rfl w) (part_u32 _ _ _ rfl w) (eqi v) ?_
    refine eqf_cons rfl a1 a1 (eqh p hp) ?_
    refine eqf_cons rfl a2 a2 (eqh r hr) ?_
    refine eqf_cons rfl (part_u32 _ _ _ a3 w) (part_u32 _ _ _ a3 w) (eqi t) ?_
    refine eqf_cons rfl (part_u32 _ _ _ a4 w) (part_u32 _ _ _ a4 w) (eqi b) ?_
    exact eqf_last rfl (part_u32 _ _ _ a5 w) (part_u32 _ _ _ a5 w) (eqi n)
  simpa using h
theorem zero_facts : (Try.prog.info? 28).map (·.size) = some (hcells 0 z32 z32 0 0 0).toArray.size ∧ (hcells 0 z32 z32 0 0 0).toArray.all (·.oneCell') = true := ⟨by rw [(zero_of_info infoH).2]; rfl, hcells_one 0 z32 z32 0 0 0⟩
set_option maxHeartbeats 4000000 in
theorem parsesl_calls (A : Option Addr) (n c : Nat) (bs : List Int) (w : World) (hn : n = bs.length) (hr : Kd.C (Kd.int .u8) w A n bs) (hc : n ≤ c) (hb : ∀ x ∈ bs, 0 ≤ x ∧ x < 256) :
    Calls Try.prog 3 #[.slice A n c] w fun e w' => e = .returned (.bool true) ∧ Below w.heap.size w w' := by
  have hm := Kd.C_max hr
  have HAW := Lib.hid (fun u => awake7_calls u)
  by_cases h200 : 200 < n
  · have f0 : (200 : Int) < (n : Int) := by omega
    clear hn hr hb
    go_enter Try.func3, Try.ntmps3
    go_wp2_with fail
    refine (HAW.out _).mono ?_
    rintro e w1 ⟨rfl, hb1⟩
    go_wp2_with fail
    go_ret
    exact ⟨rfl, hb1⟩
  by_cases hl80 : n < 80
  · have f0 : ¬ (200 : Int) < (n : Int) := by omega
    have f1 : (n : Int) < 80 := by omega
    have hE : headE bs = 2 := by rw [head_other (by omega)]; split <;> omega
    have hP := hparse_calls A c bs w (by rw [← hn]; exact hr) (by omega) hb (by omega)
    rw [hE, if_neg (by decide), ← hn] at hP
    have q0 := fun W => heads_eq 0 z32 z32 0 0 0 0 z32 z32 0 0 0 (by decide) (by decide) (by decide) (by decide) W
    simp only [beq_self_eq_true, Bool.and_self] at q0
    have hz := (zero_of_info infoH).1
    have hbz := built_zero
    have hzf := zero_facts
    unfold hV at hP
    obtain ⟨Z, hZ⟩ : ∃ C, (hcells 0 z32 z32 0 0 0).toArray = C := ⟨_, rfl⟩
    rw [hZ] at hP q0 hz hbz hzf
    have HP := Lib.hid hP
    have HZ := Lib.hid (And.intro hbz (And.intro hzf Try.underlying28))
    clear hZ hP hbz hzf hE hn hr hb
    go_enter Try.func3, Try.ntmps3
    go_wp2_with fail
    refine HP.out.mono ?_
    rintro e w1 ⟨rfl, hb1⟩
    have HB1 := Lib.hid (below_alloc hb1 (.cells Z 28))
    have hld := run_loadVar_row (P := Try.prog) (w1.alloc (.cells Z 28)) w1.heap.size 28 28 Z (0, 0) _ (heap_alloc_new w1 _) HZ.out.2.2 rfl HZ.out.2.1.1
    have hbu := fun u => run_build (P := Try.prog) u 28 #[] Z HZ.out.1
    clear hb1
    go_wp2_with (first
      | ((with_reducible show wpList _ _ _ (Oper.mk _ (Op.store _ _ _) _ _ _ _ :: _) _ _); (go_loud (refine wpl_store_new rfl 28 (.tmp 3) (.tmp 12) rfl Z Z rfl rfl HZ.out.2.1.1 rfl HZ.out.2.1.2 ?_))))
    refine (HAW.out _).mono ?_
    rintro e w2 ⟨rfl, hb2⟩
    have HB2 := Lib.hid (HB1.out.trans (Below.mono hb2 HB1.out.size))
    clear hb2
    go_wp2_with fail
    go_ret
    exact ⟨rfl, HB2.out⟩
  by_cases hg80 : 80 < n
  · have f0 : ¬ (200 : Int) < (n : Int) := by omega
    have f1 : ¬ (n : Int) < 80 := by omega
    have f2 : (80 : Int) < (n : Int) := by omega
    have hE : headE bs = 3 := by rw [head_other (by omega)]; split <;> omega
    have hP := hparse_calls A c bs w (by rw [← hn]; exact hr) (by omega) hb (by omega)
    rw [hE, if_neg (by decide), ← hn] at hP
    have q0 := fun W => heads_eq 0 z32 z32 0 0 0 0 z32 z32 0 0 0 (by decide) (by decide) (by decide) (by decide) W
    simp only [beq_self_eq_true, Bool.and_self] at q0
    have hz := (zero_of_info infoH).1
    have hbz := built_zero
    have hzf := zero_facts
    unfold hV at hP
    obtain ⟨Z, hZ⟩ : ∃ C, (hcells 0 z32 z32 0 0 0).toArray = C := ⟨_, rfl⟩
    rw [hZ] at hP q0 hz hbz hzf
    have HP := Lib.hid hP
    have HZ := Lib.hid (And.intro hbz (And.intro hzf Try.underlying28))
    clear hZ hP hbz hzf hE hn hr hb
    go_enter Try.func3, Try.ntmps3
    go_wp2_with fail
    refine HP.out.mono ?_
    rintro e w1 ⟨rfl, hb1⟩
    have HB1 := Lib.hid (below_alloc hb1 (.cells Z 28))
    have hld := run_loadVar_row (P := Try.prog) (w1.alloc (.cells Z 28)) w1.heap.size 28 28 Z (0, 0) _ (heap_alloc_new w1 _) HZ.out.2.2 rfl HZ.out.2.1.1
    have hbu := fun u => run_build (P := Try.prog) u 28 #[] Z HZ.out.1
    clear hb1
    go_wp2_with (first
      | ((with_reducible show wpList _ _ _ (Oper.mk _ (Op.store _ _ _) _ _ _ _ :: _) _ _); (go_loud (refine wpl_store_new rfl 28 (.tmp 3) (.tmp 12) rfl Z Z rfl rfl HZ.out.2.1.1 rfl HZ.out.2.1.2 ?_))))
    refine (HAW.out _).mono ?_
    rintro e w2 ⟨rfl, hb2⟩
    have HB2 := Lib.hid (HB1.out.trans (Below.mono hb2 HB1.out.size))
    clear hb2
    go_wp2_with fail
    go_ret
    exact ⟨rfl, HB2.out⟩
  obtain ⟨v, p, r, t, b, nn, hw, rfl⟩ := head_all hb (by omega)
  have hbl := headB_len v p r t b nn hw.1 hw.2.1
  obtain rfl : n = 80 := by omega
  have hC0 : Kd.C (Kd.int .u8) w A (headB v p r t b nn).length (headB v p r t b nn) := by rw [hbl]; exact hr
  have HPA := Lib.hid (hparse_back hw A c w hC0 (by rw [hbl]; exact hc))
  have HCV := Lib.hid (show ∀ u : World, Below w.heap.size w u → (convert 22 9 (.slice A 80 c)).run Try.prog u = .ok (.string (strOfNums (headB v p r t b nn))) u from fun u hu => by
    have h := Kd.C_string (P := Try.prog) (src := 22) (dst := 9) (c := c) Try.underlying22 Try.underlying5 Try.underlying9 (Kd.C_below hC0 hu)
    rwa [hbl] at h)
  have HRF := Lib.hid (fun W => lref_calls v p r t b nn W hw.1 hw.2.1)
  have HRP := Lib.hid (fun W => rparse7_calls v p r t b nn W hw)
  have HBS := Lib.hid (fun (T : ByteArray) (hT : strOfNums (headB v p r t b nn) = T) (C : Array Value) (hC : (hcells v p r t b nn).toArray = C) W => hbytes_str hw hT C hC W)
  have q0 := fun W => refs_eq v p r t b nn hw.1 hw.2.1 W
  have hz := (zero_of_info infoH).1
  have hz1 : (Try.prog.info? 28).map (·.size) = some (hcells v p r t b nn).toArray.size := by
    rw [(zero_of_info infoH).2]
    simp [hcells_len v p r t b nn hw.1 hw.2.1]
  have hzs : (hcells 0 z32 z32 0 0 0).toArray.size = (hcells v p r t b nn).toArray.size := by
    simp [hcells_len v p r t b nn hw.1 hw.2.1, hcells_len 0 z32 z32 0 0 0 (by simp [z32]) (by simp [z32])]
  have hone := hcells_one v p r t b nn
  unfold hV at HRF HRP
  obtain ⟨T, hT⟩ : ∃ T, strOfNums (headB v p r t b nn) = T := ⟨_, rfl⟩
  obtain ⟨CL, hCL⟩ : ∃ C, hcells v p r t b nn = C := ⟨_, rfl⟩
  obtain ⟨Z, hZ⟩ : ∃ C, (hcells 0 z32 z32 0 0 0).toArray = C := ⟨_, rfl⟩
  have HBS2 := Lib.hid (HBS.out T hT CL.toArray (by rw [hCL]))
  rw [hT] at HCV HRP
  rw [hCL] at HPA HRF HRP q0 hz1 hzs hone
  rw [hZ] at hz hzs
  have hiC : (Try.prog.info? 28).map (·.size) = some CL.length := by rw [hz1]; simp
  have HZ := Lib.hid (And.intro hz1 (And.intro hzs hone))
  have hu := Try.underlying28
  clear hT hCL hZ hz1 hzs hone HBS hw hC0 hr hb hbl hn h200 hl80 hg80 hm
  go_enter Try.func3, Try.ntmps3
  go_wp2_with fail
  refine HPA.out.mono ?_
  rintro e w1 ⟨rfl, hb1⟩
  have HB1 := Lib.hid (below_alloc hb1 (.cells CL.toArray 28))
  have HN1 := Lib.hid (heap_alloc_new w1 (.cells CL.toArray 28))
  clear hb1
  go_wp2_with ((with_reducible show wpList _ _ _ (Oper.mk _ (Op.store _ _ _) _ _ _ _ :: _) _ _); (go_loud (refine wpl_store_new rfl 28 (.tmp 3) (.tmp 12) rfl Z CL.toArray rfl rfl HZ.out.1 HZ.out.2.1 HZ.out.2.2 ?_)))
  obtain ⟨W, hW⟩ : ∃ W, w1.alloc (.cells CL.toArray 28) = W := ⟨_, rfl⟩
  rw [hW] at HB1 HN1 ⊢
  have HSS := Lib.hid (show ∀ u : World, Below W.heap.size W u → u.rangeAt w1.heap.size 0 CL ∧ (convert 22 9 (.slice A 80 c)).run Try.prog u = .ok (.string T) u from fun u hu => ⟨fun j v hj => by
    rw [Nat.zero_add, blk_cell ((hu.block _ (blk_lt HN1.out)).trans HN1.out), List.getElem?_toArray]
    exact hj, HCV.out u (HB1.out.trans (Below.mono hu HB1.out.size))⟩)
  have HB0 := Lib.hid (below_drew (Below.refl W.heap.size W))
  have HTR := Lib.hid (show ∀ u u' : World, Below W.heap.size W u → Below u.heap.size u u' → Below W.heap.size W u' from fun u u' hu hu' => hu.trans (Below.mono hu' hu.size))
  clear hW
  refine wp_region_held (S := fun u => u.rangeAt w1.heap.size 0 CL ∧ (convert 22 9 (.slice A 80 c)).run Try.prog u = .ok (.string T) u) (by kernel_rfl) ?_
  change wpAnyH _ _ _ _ _ _ _ _ (World.drew _)
  have hHeld := HSS.out _ HB0.out
  refine wpAnyH_take (i := 0) (oi := ({ dst := some 42, op := Op.move (Operand.tmp 4), type := 29, pos := "law.go:40", after := #[], guard := none } : Oper)) (v := .int .i64 0) rfl (by kernel_rfl) (by kernel_rfl) (by kernel_rfl) (fun _ _ _ h => h) (Or.inl ⟨by rfl, fun w hSw => by go_simp⟩) hHeld ?_
  simp only [Act.put, List.setIfInBounds_toArray, List.set_cons_zero, List.set_cons_succ]
  refine wpAnyH_take (i := 1) (oi := ({ dst := some 43, op := Op.binOp BinOp.eql 29 (Operand.tmp 42) (Operand.const (Value.int IntKind.i64 0)) 29, type := 4, pos := "law.go:40", after := #[{ on := 0, ground := Ground.data }], guard := none } : Oper)) (v := .bool true) rfl (by kernel_rfl) (by kernel_rfl) (by kernel_rfl) (fun _ _ _ h => h) (Or.inl ⟨by rfl, fun w hSw => by go_simp⟩) hHeld ?_
  simp only [Act.put, List.setIfInBounds_toArray, List.set_cons_zero, List.set_cons_succ]
  refine wpAnyH_take (i := 2) (oi := ({ dst := some 44, op := Op.move (Operand.tmp 43), type := 4, pos := "law.go:40", after := #[{ on := 1, ground := Ground.data }], guard := none } : Oper)) (v := .bool true) rfl (by kernel_rfl) (by kernel_rfl) (by kernel_rfl) (fun _ _ _ h => h) (Or.inl ⟨by rfl, fun w hSw => by go_simp⟩) hHeld ?_
  simp only [Act.put, List.setIfInBounds_toArray, List.set_cons_zero, List.set_cons_succ]
  refine wpAnyH_take (i := 3) (oi := ({ dst := some 45, op := Op.load 28 (Operand.tmp 3), type := 28, pos := "law.go:40", after := #[{ on := 2, ground := Ground.guard }], guard := some (2, true) } : Oper)) (v := .agg CL.toArray) rfl (by kernel_rfl) (by kernel_rfl) (by kernel_rfl) (fun _ _ _ h => h) (yieldsIf_load_mid (by rfl) _ _ rfl w1.heap.size 0 rfl CL _ (fun _ h => h.1) hu rfl hiC) hHeld ?_
  simp only [Act.put, List.setIfInBounds_toArray, List.set_cons_zero, List.set_cons_succ]
  refine wpAnyH_take (i := 5) (oi := ({ dst := some 47, op := Op.move (Operand.tmp 0), type := 22, pos := "law.go:40", after := #[{ on := 2, ground := Ground.guard }], guard := some (2, true) } : Oper)) (v := .slice A 80 c) rfl (by kernel_rfl) (by kernel_rfl) (by kernel_rfl) (fun _ _ _ h => h) (Or.inl ⟨by rfl, fun w hSw => by go_simp⟩) hHeld ?_
  simp only [Act.put, List.setIfInBounds_toArray, List.set_cons_zero, List.set_cons_succ]
  refine wpAnyH_take (i := 6) (oi := ({ dst := some 48, op := Op.convert 22 9 (Operand.tmp 47), type := 9, pos := "law.go:40", after := #[{ on := 5, ground := Ground.data }, { on := 2, ground := Ground.guard }], guard := some (2, true) } : Oper)) (v := .string T) rfl (by kernel_rfl) (by kernel_rfl) (by kernel_rfl) (fun _ _ _ h => h) (Or.inl ⟨by rfl, fun u hSu => by (have hcv := hSu.2; go_simp)⟩) hHeld ?_
  simp only [Act.put, List.setIfInBounds_toArray, List.set_cons_zero, List.set_cons_succ]
  refine wpAnyH_ready (rs := [4]) (by kernel_rfl) (by simp) ?_
  refine AllReadyH.cons (o := ({ dst := some 46, op := Op.call { callee := Callee.value (Operand.func 6), args := #[Operand.tmp 45], argTypes := #[28] }, type := 33, pos := "law.go:40", after := #[{ on := 3, ground := Ground.data }, { on := 2, ground := Ground.chain }, { on := 2, ground := Ground.guard }], guard := some (2, true) } : Oper)) rfl (fun K hK => ?_) AllReadyH.nil
  go_simp
  (with_reducible refine (HRF.out _).mono ?_)
  rintro e u4 ⟨rfl, hb4⟩
  have HB4 := Lib.hid (HTR.out _ _ HB0.out hb4)
  clear hb4
  go_wp2_with fail
  refine hK.out _ _ (HSS.out _ HB4.out) (fun hHeld => ?_)
  clear hK K
  try simp only [Act.put, List.setIfInBounds_toArray, List.set_cons_zero, List.set_cons_succ]
  refine wpAnyH_ready (rs := [7]) (by kernel_rfl) (by simp) ?_
  refine AllReadyH.cons (o := ({ dst := some 49, op := Op.call { callee := Callee.value (Operand.func 7), args := #[Operand.tmp 48], argTypes := #[9] }, type := 33, pos := "law.go:40", after := #[{ on := 6, ground := Ground.data }, { on := 4, ground := Ground.chain }, { on := 2, ground := Ground.guard }], guard := some (2, true) } : Oper)) rfl (fun K hK => ?_) AllReadyH.nil
  go_simp
  (with_reducible refine (HRP.out _).mono ?_)
  rintro e u7 ⟨rfl, hb7⟩
  have HB7 := Lib.hid (HTR.out _ _ HB4.out hb7)
  clear hb7
  go_wp2_with fail
  refine hK.out _ _ (HSS.out _ HB7.out) (fun hHeld => ?_)
  clear hK K
  try simp only [Act.put, List.setIfInBounds_toArray, List.set_cons_zero, List.set_cons_succ]
  refine wpAnyH_take (i := 8) (oi := ({ dst := some 50, op := Op.binOp BinOp.eql 33 (Operand.tmp 46) (Operand.tmp 49) 33, type := 4, pos := "law.go:40", after := #[{ on := 4, ground := Ground.data }, { on := 7, ground := Ground.data }, { on := 2, ground := Ground.guard }], guard := some (2, true) } : Oper)) (v := .bool true) rfl (by kernel_rfl) (by kernel_rfl) (by kernel_rfl) (fun _ _ _ h => h) (Or.inl ⟨by rfl, fun w hSw => by go_simp⟩) hHeld ?_
  simp only [Act.put, List.setIfInBounds_toArray, List.set_cons_zero, List.set_cons_succ]
  refine wpAnyH_take (i := 9) (oi := ({ dst := some 51, op := Op.pick (Operand.tmp 44) (Operand.tmp 50) (Operand.const (Value.bool false)), type := 4, pos := "law.go:40", after := #[{ on := 2, ground := Ground.data }, { on := 8, ground := Ground.data }], guard := none } : Oper)) (v := .bool true) rfl (by kernel_rfl) (by kernel_rfl) (by kernel_rfl) (fun _ _ _ h => h) (Or.inl ⟨by rfl, fun w hSw => by go_simp⟩) hHeld ?_
  simp only [Act.put, List.setIfInBounds_toArray, List.set_cons_zero, List.set_cons_succ]
  refine wpAnyH_take (i := 10) (oi := ({ dst := some 52, op := Op.move (Operand.tmp 51), type := 4, pos := "law.go:40", after := #[{ on := 9, ground := Ground.data }, { on := 7, ground := Ground.chain }], guard := none } : Oper)) (v := .bool true) rfl (by kernel_rfl) (by kernel_rfl) (by kernel_rfl) (fun _ _ _ h => h) (Or.inl ⟨by rfl, fun w hSw => by go_simp⟩) hHeld ?_
  simp only [Act.put, List.setIfInBounds_toArray, List.set_cons_zero, List.set_cons_succ]
  refine wpAnyH_take (i := 11) (oi := ({ dst := some 53, op := Op.load 28 (Operand.tmp 3), type := 28, pos := "law.go:40", after := #[{ on := 10, ground := Ground.guard }], guard := some (10, true) } : Oper)) (v := .agg CL.toArray) rfl (by kernel_rfl) (by kernel_rfl) (by kernel_rfl) (fun _ _ _ h => h) (yieldsIf_load_mid (by rfl) _ _ rfl w1.heap.size 0 rfl CL _ (fun _ h => h.1) hu rfl hiC) hHeld ?_
  simp only [Act.put, List.setIfInBounds_toArray, List.set_cons_zero, List.set_cons_succ]
  refine wpAnyH_take (i := 14) (oi := ({ dst := some 56, op := Op.move (Operand.tmp 0), type := 22, pos := "law.go:40", after := #[{ on := 10, ground := Ground.guard }], guard := some (10, true) } : Oper)) (v := .slice A 80 c) rfl (by kernel_rfl) (by kernel_rfl) (by kernel_rfl) (fun _ _ _ h => h) (Or.inl ⟨by rfl, fun w hSw => by go_simp⟩) hHeld ?_
  simp only [Act.put, List.setIfInBounds_toArray, List.set_cons_zero, List.set_cons_succ]
  refine wpAnyH_take (i := 15) (oi := ({ dst := some 57, op := Op.convert 22 9 (Operand.tmp 56), type := 9, pos := "law.go:40", after := #[{ on := 14, ground := Ground.data }, { on := 10, ground := Ground.guard }], guard := some (10, true) } : Oper)) (v := .string T) rfl (by kernel_rfl) (by kernel_rfl) (by kernel_rfl) (fun _ _ _ h => h) (Or.inl ⟨by rfl, fun u hSu => by (have hcv := hSu.2; go_simp)⟩) hHeld ?_
  simp only [Act.put, List.setIfInBounds_toArray, List.set_cons_zero, List.set_cons_succ]
  refine wpAnyH_ready (rs := [12]) (by kernel_rfl) (by simp) ?_
  refine AllReadyH.cons (o := ({ dst := some 54, op := Op.call { callee := Callee.value (Operand.func 8), args := #[Operand.tmp 53], argTypes := #[28] }, type := 22, pos := "law.go:40", after := #[{ on := 11, ground := Ground.data }, { on := 10, ground := Ground.chain }, { on := 10, ground := Ground.guard }], guard := some (10, true) } : Oper)) rfl (fun K hK => ?_) AllReadyH.nil
  go_simp
  (with_reducible refine (HBS2.out _).mono ?_)
  rintro e u12 ⟨x, rfl, hb12, hx⟩
  have HB12 := Lib.hid (HTR.out _ _ HB7.out hb12)
  have hx13 := hx _ (Below.refl _ _)
  clear hb12 hx
  go_wp2_with fail
  refine hK.out _ _ (HSS.out _ HB12.out) (fun hHeld => ?_)
  clear hK K
  try simp only [Act.put, List.setIfInBounds_toArray, List.set_cons_zero, List.set_cons_succ]
  refine wpAnyH_ready (rs := [13]) (by kernel_rfl) (by simp) ?_
  refine AllReadyH.cons (o := ({ dst := some 55, op := Op.convert 22 9 (Operand.tmp 54), type := 9, pos := "law.go:40", after := #[{ on := 12, ground := Ground.data }, { on := 10, ground := Ground.guard }], guard := some (10, true) } : Oper)) rfl (fun K hK => ?_) AllReadyH.nil
  go_simp
  refine hK.out _ _ (HSS.out _ HB12.out) (fun hHeld => ?_)
  clear hK K
  try simp only [Act.put, List.setIfInBounds_toArray, List.set_cons_zero, List.set_cons_succ]
  clear hx13
  refine wpAnyH_take (i := 16) (oi := ({ dst := some 58, op := Op.binOp BinOp.eql 9 (Operand.tmp 55) (Operand.tmp 57) 9, type := 4, pos := "law.go:40", after := #[{ on := 13, ground := Ground.data }, { on := 15, ground := Ground.data }, { on := 10, ground := Ground.guard }], guard := some (10, true) } : Oper)) (v := .bool true) rfl (by kernel_rfl) (by kernel_rfl) (by kernel_rfl) (fun _ _ _ h => h) (Or.inl ⟨by rfl, fun w hSw => by go_simp⟩) hHeld ?_
  simp only [Act.put, List.setIfInBounds_toArray, List.set_cons_zero, List.set_cons_succ]
  refine wpAnyH_take (i := 17) (oi := ({ dst := some 59, op := Op.pick (Operand.tmp 52) (Operand.tmp 58) (Operand.const (Value.bool false)), type := 4, pos := "law.go:40", after := #[{ on := 10, ground := Ground.data }, { on := 16, ground := Ground.data }], guard := none } : Oper)) (v := .bool true) rfl (by kernel_rfl) (by kernel_rfl) (by kernel_rfl) (fun _ _ _ h => h) (Or.inl ⟨by rfl, fun w hSw => by go_simp⟩) hHeld ?_
  simp only [Act.put, List.setIfInBounds_toArray, List.set_cons_zero, List.set_cons_succ]
  refine wpAnyH_take (i := 18) (oi := ({ dst := some 60, op := Op.move (Operand.tmp 59), type := 4, pos := "law.go:40", after := #[{ on := 17, ground := Ground.data }, { on := 12, ground := Ground.chain }], guard := none } : Oper)) (v := .bool true) rfl (by kernel_rfl) (by kernel_rfl) (by kernel_rfl) (fun _ _ _ h => h) (Or.inl ⟨by rfl, fun w hSw => by go_simp⟩) hHeld ?_
  simp only [Act.put, List.setIfInBounds_toArray, List.set_cons_zero, List.set_cons_succ]
  refine wpAnyH_ready (rs := [19]) (by kernel_rfl) (by simp) ?_
  refine AllReadyH.cons (o := ({ dst := some 61, op := Op.call { callee := Callee.value (Operand.func 4), args := #[], argTypes := #[] }, type := 4, pos := "law.go:40", after := #[{ on := 18, ground := Ground.chain }, { on := 18, ground := Ground.guard }], guard := some (18, true) } : Oper)) rfl (fun K hK => ?_) AllReadyH.nil
  go_simp
  (with_reducible refine (HAW.out _).mono ?_)
  rintro e u19 ⟨rfl, hb19⟩
  have HB19 := Lib.hid (HTR.out _ _ HB12.out hb19)
  clear hb19
  go_wp2_with fail
  refine hK.out _ _ (HSS.out _ HB19.out) (fun hHeld => ?_)
  clear hK K
  try simp only [Act.put, List.setIfInBounds_toArray, List.set_cons_zero, List.set_cons_succ]
  refine wpAnyH_take (i := 20) (oi := ({ dst := some 62, op := Op.pick (Operand.tmp 60) (Operand.tmp 61) (Operand.const (Value.bool false)), type := 4, pos := "law.go:40", after := #[{ on := 18, ground := Ground.data }, { on := 19, ground := Ground.data }], guard := none } : Oper)) (v := .bool true) rfl (by kernel_rfl) (by kernel_rfl) (by kernel_rfl) (fun _ _ _ h => h) (Or.inl ⟨by rfl, fun w hSw => by go_simp⟩) hHeld ?_
  simp only [Act.put, List.setIfInBounds_toArray, List.set_cons_zero, List.set_cons_succ]
  refine wpAnyH_take (i := 21) (oi := ({ dst := some 2, op := Op.assign (Operand.tmp 62), type := 4, pos := "law.go:40", after := #[{ on := 20, ground := Ground.data }, { on := 19, ground := Ground.chain }, { on := 0, ground := Ground.phase }, { on := 1, ground := Ground.phase }, { on := 2, ground := Ground.phase }, { on := 3, ground := Ground.phase }, { on := 4, ground := Ground.phase }, { on := 5, ground := Ground.phase }, { on := 6, ground := Ground.phase }, { on := 7, ground := Ground.phase }, { on := 8, ground := Ground.phase }, { on := 9, ground := Ground.phase }, { on := 10, ground := Ground.phase }, { on := 11, ground := Ground.phase }, { on := 12, ground := Ground.phase }, { on := 13, ground := Ground.phase }, { on := 14, ground := Ground.phase }, { on := 15, ground := Ground.phase }, { on := 16, ground := Ground.phase }, { on := 17, ground := Ground.phase }, { on := 18, ground := Ground.phase }, { on := 19, ground := Ground.phase }, { on := 20, ground := Ground.phase }], guard := none } : Oper)) (v := .bool true) rfl (by kernel_rfl) (by kernel_rfl) (by kernel_rfl) (fun _ _ _ h => h) (Or.inl ⟨by rfl, fun w hSw => by go_simp⟩) hHeld ?_
  simp only [Act.put, List.setIfInBounds_toArray, List.set_cons_zero, List.set_cons_succ]
  refine wpAnyH_done (by kernel_rfl) ?_ _
  clear q0 hiC hu hHeld
  go_wp2_with fail
  go_ret
  exact ⟨rfl, HB1.out.trans (Below.mono HB19.out HB1.out.size)⟩
end Go.Proofs.Ytefnpecncacepaa.Hand
