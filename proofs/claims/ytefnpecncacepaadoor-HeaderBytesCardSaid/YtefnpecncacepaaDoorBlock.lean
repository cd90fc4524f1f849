/- A block's step: walked. -/
import Derived.Test.YtefnpecncacepaaDoorProg
import Derived.Below
import Derived.Deep.Draws
import Derived.Deep.AppendLies
import Derived.Maps.AppendAt
import Derived.OwnWalk
import Derived.Laws.BytesArg
import Derived.Laws.MakeOwn
import Derived.Laws.OwnMore
import Derived.Deep.OwnRows
import Derived.Tactics
import Derived.Lib.ConvBytes
import Derived.Laws.Slices
import Derived.WalkKit
import Derived.KernelRfl
import Derived.RowKit3
import Derived.Deep.LoopGhost
import Derived.Deep.QuietTactic
import Derived.BigQuiet
import Derived.WideLaws
import Derived.Deep.DeepCutAuto
import Derived.Deep.CutBlock
import Derived.Deep.RegionHeld3
import Derived.Laws.Rows
import Derived.Lib.AppendStr
import Derived.ArgAppend
import Derived.Laws.IdiomCopy
import Derived.OrdersHeld
import Derived.Laws.BitsLemmas
import Derived.RowKit
import Derived.StillTailTactics
import Derived.Test.YtefnpecncacepaaDoorWWords
import Derived.Test.YtefnpecncacepaaDoorWLast
import Derived.Test.YtefnpecncacepaaDoorWMore
import Derived.Lib.Hide
import Derived.Outline
import Derived.StillTailTactics
import Derived.Deep.MidRow
import Derived.Deep.WholeRow
import Derived.Laws.Tables
import Derived.Test.YtefnpecncacepaaDoorArrays
import Derived.Test.YtefnpecncacepaaDoorSpread
namespace Go.Proofs.YtefnpecncacepaaDoor.Hand
open Go Go.RowKit Go.Proofs.YtefnpecncacepaaDoor.Plain Go.Proofs.YtefnpecncacepaaDoor.PAll Go.Proofs.YtefnpecncacepaaDoorW.PrintWords Go.Proofs.YtefnpecncacepaaDoorW.PrintLast Go.Proofs.YtefnpecncacepaaDoorW.PrintMore
set_option linter.unusedVariables false
set_option linter.unusedSimpArgs false
set_option maxRecDepth 100000
theorem wpl_build {P : Program} {ops : Array Oper} {rest : List Oper} {o : Oper} {a : Act} {w : World} {Q : Exit → Act → World → Prop} (hgd : o.guard = none) (t : TypeId) (parts : Array (Nat × Operand)) (ho : o.op = .build t parts) (vs : Array (Nat × Value)) (hv : parts.map (fun p => (p.1, a.eval p.2)) = vs) (cells : Array Value) (hb : P.built t vs.toList = some cells)
    (h : wpList P ops Q rest (a.put o.dst (.agg cells)) w) : wpList P ops Q (o :: rest) a w := by
  refine wpList_plain hgd fun K hK => ?_
  unfold Oper.wp execOp
  simp only [ho, hv, run_build w t vs cells hb, Sem.run_bind, Sem.run_pure, Result.andThen_ok]
  exact hK _ _ h
theorem wpl_store_new {P : Program} {ops : Array Oper} {rest : List Oper} {o : Oper} {a : Act} {w : World} {Q : Exit → Act → World → Prop} (hgd : o.guard = none) (t : TypeId) (x y : Operand) (ho : o.op = .store t x y) (c c' : Array Value) (hx : a.eval x = .pointer (some ⟨w.heap.size, 0, none⟩)) (hy : a.eval y = .agg c')
    (hi : (P.info? t).map (·.size) = some c'.size) (hs : c.size = c'.size) (h1 : c'.all (·.oneCell') = true) (h : wpList P ops Q rest (a.put o.dst undef) (w.alloc (.cells c' t))) : wpList P ops Q (o :: rest) a (w.alloc (.cells c t)) := by
  refine wpList_plain hgd fun K hK => ?_
  unfold Oper.wp execOp
  simp only [ho, hx, hy, run_storeAt_new w t c c' hi hs h1, Sem.run_bind, Sem.run_pure, Result.andThen_ok]
  exact hK _ _ h
theorem not32n {x : Nat} (h : x < 2 ^ 32) : (4294967295 : Nat) ^^^ x = 4294967295 - x := by
  apply Nat.eq_of_testBit_eq
  intro i
  have h1 := Nat.testBit_two_pow_sub_succ h i
  rw [show 4294967295 - x = 2 ^ 32 - (x + 1) by omega, h1, Nat.testBit_xor, show (4294967295 : Nat) = 2 ^ 32 - 1 by decide, Nat.testBit_two_pow_sub_one]
  by_cases hi : i < 32
  · simp [hi]
  · have : x.testBit i = false := Nat.testBit_lt_two_pow (Nat.lt_of_lt_of_le h (Nat.pow_le_pow_right (by decide) (by omega)))
    simp [hi, this]
theorem xor32 (a b : Nat) (ha : a < 2 ^ 32) (hb : b < 2 ^ 32) : Go.bits .xor .u32 (a : Int) (b : Int) = ((a ^^^ b : Nat) : Int) := by
  have ha' : a % 2 ^ IntKind.u32.bits = a := Nat.mod_eq_of_lt ha
  have hb' : b % 2 ^ IntKind.u32.bits = b := Nat.mod_eq_of_lt hb
  simp only [Go.bits, BitVec.ofInt_natCast, BitVec.toNat_xor, BitVec.toNat_ofNat, ha', hb']
  rw [IntKind.wrap_u32]
  have := Nat.xor_lt_two_pow ha hb
  omega
theorem not32 {x : Int} (h0 : 0 ≤ x) (h1 : x < 4294967296) : Go.bits .xor .u32 (if IntKind.u32.signed = true then -1 else IntKind.u32.max) x = 4294967295 - x := by
  obtain ⟨n, rfl⟩ := Int.eq_ofNat_of_zero_le h0
  rw [show (if IntKind.u32.signed = true then (-1 : Int) else IntKind.u32.max) = ((4294967295 : Nat) : Int) from by decide]
  rw [xor32 _ _ (by decide) (by omega), not32n (by omega)]
  omega
theorem quietN {P : Program} {f : FuncId} {args : Array Value} {v : Value} (h : ∀ W, Calls P f args W fun e w' => e = .returned v ∧ Drawn0 W w') (W : World) (N : Nat) : Calls P f args (W.drewN N) fun e w' => e = .returned v ∧ ∃ M, w' = W.drewN M :=
  (h (W.drewN N)).mono fun e w' hh => by
    obtain ⟨he, ⟨nd, hd⟩⟩ := hh
    exact ⟨he, _, by rw [hd, World.drewN_drewN]⟩
/-- The table lies there. -/
def KT (w : World) : Prop := ∀ i : Nat, i < 64 → w.cell? ⟨0, i, none⟩ = some (.int .u32 (rd kT (i : Int)))
theorem KT.lt {w : World} (h : KT w) : 0 < w.heap.size := by
  have h0 := h 0 (by decide)
  unfold World.cell? at h0
  rcases Nat.lt_or_ge 0 w.heap.size with hlt | hge
  · exact hlt
  · rw [Array.getElem?_eq_none hge] at h0
    simp at h0
theorem KT.of_block {w w' : World} (h : KT w) (hb : w'.heap[(0 : Nat)]? = w.heap[(0 : Nat)]?) : KT w' := fun i hi => by
  have := h i hi
  unfold World.cell? at this ⊢
  simp only [hb]
  exact this
theorem KT.below {w w' : World} {B : Nat} (h : KT w) (hb : Below B w w') (hB : w.heap.size ≤ B) : KT w' := h.of_block (hb.block _ (Nat.lt_of_lt_of_le h.lt hB))
/-- The state's cells. -/
def s8 (s : St) : Array Value := #[.int .u32 s.a, .int .u32 s.b, .int .u32 s.c, .int .u32 s.d, .int .u32 s.e, .int .u32 s.f, .int .u32 s.g, .int .u32 s.h]
def St.wd (s : St) : Prop := (Wd s.a ∧ Wd s.b ∧ Wd s.c ∧ Wd s.d) ∧ (Wd s.e ∧ Wd s.f ∧ Wd s.g ∧ Wd s.h)
theorem round_wd {s : St} (h : s.wd) (k w : Int) : (round s k w).wd := ⟨⟨add32_wd _ _, h.1.1, h.1.2.1, h.1.2.2.1⟩, ⟨add32_wd _ _, h.2.1, h.2.2.1, h.2.2.2.1⟩⟩
theorem rounds_wd (ws : List Int) {s : St} (h : s.wd) : ∀ n, (rounds ws n s).wd
  | 0 => h
  | n + 1 => round_wd (rounds_wd ws h n) _ _
theorem info8 : (Tryd.prog.info? 95).map (fun i => (i.zero, i.size)) = some (some (.agg (s8 ⟨0, 0, 0, 0, 0, 0, 0, 0⟩)), 8) := by kernel_rfl
theorem s8_size (s : St) : (Tryd.prog.info? 95).map (·.size) = some (s8 s).size := (zero_of_info info8).2
theorem s8_one (s : St) : (s8 s).all (·.oneCell') = true := by simp [s8, Value.oneCell']
theorem s8_build (a b c d e f g h : Int) : Tryd.prog.built 95 [(0, .int .u32 a), (1, .int .u32 b), (2, .int .u32 c), (3, .int .u32 d), (4, .int .u32 e), (5, .int .u32 f), (6, .int .u32 g), (7, .int .u32 h)] = some (s8 ⟨a, b, c, d, e, f, g, h⟩) := by kernel_rfl
theorem pR_eq (s : St) (k w : Int) : pR s k w = (s.h + x3 (rrI s.e 6) (rrI s.e 11) (rrI s.e 25) + chO s.e s.f s.g + k + w) % 4294967296 := by
  unfold pR add32
  omega
/-- Eight words by their places. -/
def arrF (f : Nat → Int) : Array Value := ((List.range 8).map fun j => Value.int .u32 (f j)).toArray
theorem arrF_get (f : Nat → Int) {j : Nat} (h : j < 8) : (arrF f)[j]? = some (.int .u32 (f j)) := by simp [arrF, h]
theorem arrF_set (f : Nat → Int) {k : Nat} (h : k < 8) (x : Int) : (arrF f).setIfInBounds k (.int .u32 x) = arrF (fun j => if j = k then x else f j) := by
  apply Array.ext_getElem?
  intro j
  rw [Array.getElem?_setIfInBounds]
  by_cases hj : j < 8
  · rw [arrF_get _ hj]
    by_cases hk : k = j
    · subst hk
      simp [arrF, h]
    · rw [arrF_get _ hj, if_neg hk]
      simp [Ne.symm hk]
  · have h1 : (arrF f).size = 8 := by simp [arrF]
    have h2 : k ≠ j := by omega
    have h3 : ∀ g, (arrF g)[j]? = none := fun g => by simp [arrF]; omega
    simp [h2, h3]
def St.at8 (s : St) : Nat → Int
  | 0 => s.a
  | 1 => s.b
  | 2 => s.c
  | 3 => s.d
  | 4 => s.e
  | 5 => s.f
  | 6 => s.g
  | _ => s.h
theorem s8_arr (s : St) : s8 s = arrF s.at8 := rfl
def mixF (s v : St) (k j : Nat) : Int := if j < k then add32 (s.at8 j) (v.at8 j) else s.at8 j
theorem mix_0 (s v : St) : arrF (mixF s v 0) = s8 s := rfl
theorem mix_S (s v : St) {k : Nat} (h : k < 8) : (arrF (mixF s v k)).setIfInBounds k (.int .u32 (add32 (s.at8 k) (v.at8 k))) = arrF (mixF s v (k + 1)) := by
  rw [arrF_set _ h]
  congr 1
  funext j
  unfold mixF
  by_cases hj : j = k
  · subst hj
    simp
  · by_cases hk : j < k
    · simp [hj, hk, show j < k + 1 by omega]
    · simp [hj, hk, show ¬ j < k + 1 by omega]
theorem mix_8 (s : St) (b : List Int) : arrF (mixF s (rounds (wds b) 64 s) 8) = s8 (stepS s b) := rfl
theorem mix_at (s v : St) (k : Nat) : mixF s v k k = s.at8 k := by simp [mixF]
theorem round_is {sa sb sc sd se sf sg sh T1 T2 C1 M1 kk wk P1 Q1 : Int} (h1 : x3 (rrI se 6) (rrI se 11) (rrI se 25) = T1) (h2 : x3 (rrI sa 2) (rrI sa 13) (rrI sa 22) = T2) (h3 : chO se sf sg = C1) (h4 : maj sa sb sc = M1) (h5 : ((sh + T1 + C1 + kk) % 4294967296 + wk) % 4294967296 = P1) (h6 : (T2 + M1) % 4294967296 = Q1) :
    round ⟨sa, sb, sc, sd, se, sf, sg, sh⟩ kk wk = ⟨(P1 + Q1) % 4294967296, sa, sb, sc, (sd + P1) % 4294967296, se, sf, sg⟩ := by
  have hp : pR ⟨sa, sb, sc, sd, se, sf, sg, sh⟩ kk wk = P1 := by
    rw [pR_eq, ← h5]
    show (sh + x3 (rrI se 6) (rrI se 11) (rrI se 25) + chO se sf sg + kk + wk) % 4294967296 = _
    rw [h1, h3]
    omega
  unfold round
  rw [hp]
  unfold qR add32
  rw [h2, h4, h6]
set_option maxHeartbeats 1000000 in
set_option maxRecDepth 100000 in
theorem block_calls (s : St) (bs : List Int) (w : World) (hK : KT w) (hs : s.wd) (hl : bs.length = 64) (hby : ∀ x ∈ bs, 0 ≤ x ∧ x < 256) :
    Calls Tryd.prog 62 #[.agg (s8 s), .agg (nums .u8 bs).toArray] w fun e w' => e = .returned (.agg (s8 (stepS s bs))) ∧ Below w.heap.size w w' := by
  have HK := Lib.hid hK
  have HS := Lib.hid hs
  have HL := Lib.hid hl
  have HBY := Lib.hid hby
  have hz8 := (zero_of_info info8).1
  have hz := (zero_of_info infoW).1
  obtain ⟨Z, hZ⟩ : ∃ Z, (row64 []).toArray = Z := ⟨_, rfl⟩
  rw [hZ] at hz
  have HZ := Lib.hid hZ
  obtain ⟨Z8, hZ8⟩ : ∃ Z, s8 ⟨0, 0, 0, 0, 0, 0, 0, 0⟩ = Z := ⟨_, rfl⟩
  rw [hZ8] at hz8
  have HZ8 := Lib.hid hZ8
  obtain ⟨S0, hS0⟩ : ∃ S, s8 s = S := ⟨_, rfl⟩
  rw [hS0]
  have HS0 := Lib.hid hS0
  obtain ⟨BV, hBV⟩ : ∃ B, (nums .u8 bs).toArray = B := ⟨_, rfl⟩
  rw [hBV]
  have HBV := Lib.hid hBV
  clear hK hs hl hby hZ hZ8 hS0 hBV
  go_enter Tryd.func62, Tryd.ntmps62
  go_wp2_with fail
  have HB1 := Lib.hid (below_alloc (below_alloc (below_alloc (Below.refl w.heap.size w) (.cells S0 95)) (.cells BV 103)) (.cells Z8 95))
  have H2 := Lib.hid (blk_alloc (blk_alloc (heap_alloc_new w (.cells S0 95)) (.cells BV 103)) (.cells Z8 95))
  have H3 := Lib.hid (blk_alloc (show ((w.alloc (.cells S0 95)).alloc (.cells BV 103)).heap[w.heap.size + 1]? = some (.cells BV 103 (0, 0)) by
    have := heap_alloc_new (w.alloc (.cells S0 95)) (.cells BV 103)
    rw [World.size_alloc] at this
    exact this) (.cells Z8 95))
  have H4 := Lib.hid (show (((w.alloc (.cells S0 95)).alloc (.cells BV 103)).alloc (.cells Z8 95)).heap[w.heap.size + 1 + 1]? = some (.cells Z8 95 (0, 0)) by
    have := heap_alloc_new ((w.alloc (.cells S0 95)).alloc (.cells BV 103)) (.cells Z8 95)
    rw [World.size_alloc, World.size_alloc] at this
    exact this)
  have HWS := Lib.hid (show (((w.alloc (.cells S0 95)).alloc (.cells BV 103)).alloc (.cells Z8 95)).heap.size = w.heap.size + 3 by rw [World.size_alloc, World.size_alloc, World.size_alloc])
  obtain ⟨W1, hW1⟩ : ∃ W, (((w.alloc (.cells S0 95)).alloc (.cells BV 103)).alloc (.cells Z8 95)) = W := ⟨_, rfl⟩
  rw [hW1] at HB1 H2 H3 H4 HWS ⊢
  obtain ⟨b2, hb2⟩ : ∃ b, w.heap.size = b := ⟨_, rfl⟩
  rw [hb2] at H2 H3 H4 HB1 ⊢
  obtain ⟨b4, hb4⟩ : ∃ b, b2 + 1 + 1 = b := ⟨_, rfl⟩
  rw [hb4] at H4 ⊢
  have HBB := Lib.hid (And.intro hb2 hb4)
  clear hW1 hb2 hb4
  refine (spread_calls (b2 + 1) bs W1 (by rw [HBV.out]; exact H3.out) HL.out HBY.out).mono ?_
  rintro e w1 ⟨rfl, hb1⟩
  have H2b := Lib.hid ((hb1.block _ (blk_lt H2.out)).trans H2.out)
  have H4b := Lib.hid ((hb1.block _ (blk_lt H4.out)).trans H4.out)
  have HB2 := Lib.hid (HB1.out.trans (Below.mono hb1 (by have := HWS.out; have := HBB.out.1; omega)))
  have HLT := Lib.hid (show b4 < w1.heap.size from blk_lt H4b.out)
  have hwl := wds_len bs
  have HS2 := Lib.hid (show (Tryd.prog.info? 109).map (·.size) = some (nums .u32 (wds bs)).toArray.size by rw [(zero_of_info infoW).2]; simp [nums, hwl])
  have HZS := Lib.hid (show Z.size = (nums .u32 (wds bs)).toArray.size by rw [← HZ.out]; simp [nums, hwl, row64_len])
  have HO1 := Lib.hid (all_oneCell_toArray (nums_one .u32 (wds bs)))
  obtain ⟨ws, hws⟩ : ∃ W, wds bs = W := ⟨_, rfl⟩
  have HSW : Hid (∀ x ∈ ws, Wd x) := Lib.hid (by rw [← hws]; exact ext_wd _ _ (first16_wd bs))
  rw [hws] at HS2 HZS HO1 hwl ⊢
  have HWL := Lib.hid hwl
  have HWD := Lib.hid hws
  obtain ⟨V, hV⟩ : ∃ V, (nums .u32 ws).toArray = V := ⟨_, rfl⟩
  rw [hV] at HS2 HZS HO1 ⊢
  have HV := Lib.hid hV
  have HU8 := Lib.hid Tryd.underlying95
  have H88 := Lib.hid (And.intro (show (Tryd.prog.info? 95).map (·.size) = some S0.size by rw [← HS0.out]; exact s8_size s) (And.intro (show Z8.size = S0.size by rw [← HS0.out, ← HZ8.out]; rfl) (show S0.all (·.oneCell') = true by rw [← HS0.out]; exact s8_one s)))
  have HA := Lib.hid (blk_alloc H2b.out (.cells V 109))
  have HZ2 := Lib.hid (And.intro hz hz8)
  clear hws hwl hV hb1
  go_wp2_with (first | ((with_reducible show wpList _ _ _ (Oper.mk _ (Op.store 109 _ _) _ _ _ _ :: _) _ _); (refine wpl_store_new rfl 109 (.tmp 5) (.tmp 11) rfl Z V rfl rfl HS2.out HZS.out HO1.out ?_)) | ((with_reducible show wpList _ _ _ (Oper.mk _ (Op.load _ _) _ _ _ _ :: _) _ _); ((refine wpList_load_row rfl 95 (.tmp 2) rfl b2 rfl 95 S0 (0, 0) _ HA.out HU8.out rfl H88.out.1 ?_))) | ((with_reducible show wpList _ _ _ (Oper.mk _ (Op.store 95 _ _) _ _ _ _ :: _) _ _); ((refine wpl_store_new rfl 95 (.tmp 6) (.tmp 12) rfl Z8 S0 (by rw [World.size_alloc]; rfl) rfl H88.out.1 H88.out.2.1 H88.out.2.2 ?_))))
  have HV5 := Lib.hid (blk_alloc (heap_alloc_new w1 (.cells V 109)) (.cells S0 95))
  have HS6 := Lib.hid (show ((w1.alloc (.cells V 109)).alloc (.cells S0 95)).heap[w1.heap.size + 1]? = some (.cells S0 95 (0, 0)) by
    have := heap_alloc_new (w1.alloc (.cells V 109)) (.cells S0 95)
    rw [World.size_alloc] at this
    exact this)
  have H2c := Lib.hid (blk_alloc (blk_alloc H2b.out (.cells V 109)) (.cells S0 95))
  have H4c := Lib.hid (blk_alloc (blk_alloc H4b.out (.cells V 109)) (.cells S0 95))
  have HBc := Lib.hid ((HB2.out.alloc (by have := HLT.out; have := HBB.out; omega) (.cells V 109)).alloc (by rw [World.size_alloc]; have := HLT.out; have := HBB.out; omega) (.cells S0 95))
  obtain ⟨W2, hW2⟩ : ∃ W, ((w1.alloc (.cells V 109)).alloc (.cells S0 95)) = W := ⟨_, rfl⟩
  rw [hW2] at HV5 HS6 H2c H4c HBc ⊢
  obtain ⟨b5, hb5⟩ : ∃ b, w1.heap.size = b := ⟨_, rfl⟩
  have hlt5 := HLT.out
  rw [hb5] at HV5 HS6 hlt5 ⊢
  obtain ⟨b6, hb6⟩ : ∃ b, b5 + 1 = b := ⟨_, rfl⟩
  rw [hb6] at HS6 ⊢
  have HORD := Lib.hid (show b2 < b4 ∧ b4 < b5 ∧ b5 < b6 by have := HBB.out.2; omega)
  clear hW2 hb5 hb6 hlt5 HLT HA hz hz8
  go_loopw [13] (fun i wr => ∃ k : Nat, k ≤ 64 ∧ i = .int .i64 (k : Int) ∧ Hid (wr.heap[b6]? = some (.cells (s8 (rounds ws k s)) 95 (0, 0)) ∧ wr.heap[b5]? = some (.cells V 109 (0, 0)) ∧ wr.heap[b2]? = some (.cells S0 95 (0, 0)) ∧ wr.heap[b4]? = some (.cells Z8 95 (0, 0)) ∧ Below b2 w wr)) (fun i _ => (64 - intOf i).toNat)
  case atStart => exact ⟨0, by omega, rfl, Lib.hid ⟨by rw [HS6.out, ← HS0.out]; rfl, HV5.out, H2c.out, H4c.out, HBc.out⟩⟩
  case round =>
    obtain ⟨k, hk, rfl, H⟩ := hrel
    obtain ⟨h6, h5, h2, h4, hbl⟩ := H.out
    have H5 := Lib.hid h5
    have H2 := Lib.hid h2
    have H4 := Lib.hid h4
    have HBL := Lib.hid hbl
    by_cases hlt : k < 64
    · obtain ⟨st, hst⟩ : ∃ st, rounds ws k s = st := ⟨_, rfl⟩
      have hwd : st.wd := by rw [← hst]; exact rounds_wd ws HS.out k
      rw [hst] at h6
      have HST := Lib.hid hst
      have HWD2 := Lib.hid hwd
      have H6 := Lib.hid h6
      obtain ⟨sa, sb, sc, sd, se, sf, sg, sh⟩ := st
      obtain ⟨kk, hkk⟩ : ∃ x, rd kT (k : Int) = x := ⟨_, rfl⟩
      obtain ⟨wk, hwk⟩ : ∃ x, rd ws (k : Int) = x := ⟨_, rfl⟩
      have HKW := Lib.hid (And.intro hkk hwk)
      have hall : ∀ wx : World, wx.heap[b6]? = some (.cells (s8 ⟨sa, sb, sc, sd, se, sf, sg, sh⟩) 95 (0, 0)) → wx.heap[b5]? = some (.cells V 109 (0, 0)) → Below b2 w wx → (wx.cell? ⟨b6, 0, none⟩ = some (.int .u32 sa) ∧ wx.cell? ⟨b6, 1, none⟩ = some (.int .u32 sb) ∧ wx.cell? ⟨b6, 2, none⟩ = some (.int .u32 sc) ∧ wx.cell? ⟨b6, 3, none⟩ = some (.int .u32 sd) ∧ wx.cell? ⟨b6, 4, none⟩ = some (.int .u32 se) ∧ wx.cell? ⟨b6, 5, none⟩ = some (.int .u32 sf) ∧ wx.cell? ⟨b6, 6, none⟩ = some (.int .u32 sg) ∧ wx.cell? ⟨b6, 7, none⟩ = some (.int .u32 sh)) ∧ wx.cell? ⟨0, k, none⟩ = some (.int .u32 kk) ∧ wx.cell? ⟨b5, k, none⟩ = some (.int .u32 wk) := by
        intro wx h1 h2 h3
        refine ⟨⟨(blk_cell h1 0).trans rfl, (blk_cell h1 1).trans rfl, (blk_cell h1 2).trans rfl, (blk_cell h1 3).trans rfl, (blk_cell h1 4).trans rfl, (blk_cell h1 5).trans rfl, (blk_cell h1 6).trans rfl, (blk_cell h1 7).trans rfl⟩, ?_, ?_⟩
        · rw [← hkk]
          exact KT.below HK.out h3 (Nat.le_of_eq HBB.out.1) k hlt
        · rw [← hwk]
          refine (blk_cell h2 k).trans ?_
          rw [← HV.out]
          simp [nums, rd, HWL.out, hlt]
      have HALL := Lib.hid hall
      obtain ⟨⟨c0, c1, c2, c3, c4, c5, c6, c7⟩, ck, cw⟩ := hall wr h6 h5 hbl
      have i0 : (0 : Int) ≤ (k : Int) := by omega
      have i1 : (k : Int) < 64 := by omega
      obtain ⟨ne, hne⟩ : ∃ x, 4294967295 - se = x := ⟨_, rfl⟩
      have hnot : Go.bits .xor .u32 (if IntKind.u32.signed = true then -1 else IntKind.u32.max) se = ne := (not32 hwd.2.1.1 hwd.2.1.2).trans hne
      obtain ⟨C1, hC1⟩ : ∃ x, chO se sf sg = x := ⟨_, rfl⟩
      have hch : Go.bits .xor .u32 (Go.bits .and .u32 se sf) (Go.bits .and .u32 ne sg) = C1 := by rw [← hC1, ← hne]; rfl
      obtain ⟨M1, hM1⟩ : ∃ x, maj sa sb sc = x := ⟨_, rfl⟩
      have HMJ := Lib.hid (show Go.bits .xor .u32 (Go.bits .xor .u32 (Go.bits .and .u32 sa sb) (Go.bits .and .u32 sa sc)) (Go.bits .and .u32 sb sc) = M1 by rw [← hM1]; rfl)
      have HCM := Lib.hid (And.intro hC1 hM1)
      obtain ⟨T1, hT1⟩ : ∃ x, x3 (rrI se 6) (rrI se 11) (rrI se 25) = x := ⟨_, rfl⟩
      obtain ⟨T2, hT2⟩ : ∃ x, x3 (rrI sa 2) (rrI sa 13) (rrI sa 22) = x := ⟨_, rfl⟩
      have HTT := Lib.hid (And.intro hT1 hT2)
      have hf1 : sha2_turned.f se 6 11 25 = some T1 := (turned_I hwd.2.1 6 11 25 (by decide) (by decide) (by decide)).trans (by rw [hT1])
      have hf2 : sha2_turned.f sa 2 13 22 = some T2 := (turned_I hwd.1.1 2 13 22 (by decide) (by decide) (by decide)).trans (by rw [hT2])
      have HT1 := Lib.hid (show ∀ (W : World) (N : Nat), Calls Tryd.prog 67 #[.int .u32 se, .int .i64 6, .int .i64 11, .int .i64 25] (W.drewN N) fun e w' => e = .returned (.int .u32 T1) ∧ ∃ M, w' = W.drewN M from quietN fun W => sha2_turned.calls se 6 11 25 T1 W hf1)
      have HT2 := Lib.hid (show ∀ (W : World) (N : Nat), Calls Tryd.prog 67 #[.int .u32 sa, .int .i64 2, .int .i64 13, .int .i64 22] (W.drewN N) fun e w' => e = .returned (.int .u32 T2) ∧ ∃ M, w' = W.drewN M from quietN fun W => sha2_turned.calls sa 2 13 22 T2 W hf2)
      clear h6 h5 h2 h4 hbl H hst hwd hkk hwk hall hT1 hT2 hf1 hf2 hC1 hM1 hne
      go_wp2_with fail
      go_quiet ((go_at_call 67; exact HT1.out _ _))
      clear hnot hch c0 c1 c2 c3 c4 c5 c6 c7 ck cw
      obtain ⟨P1, hP1⟩ : ∃ x, ((sh + T1 + C1 + kk) % 4294967296 + wk) % 4294967296 = x := ⟨_, rfl⟩
      rw [hP1]
      have HP1 := Lib.hid hP1
      clear hP1
      obtain ⟨wq, hwq⟩ : ∃ wq, wr.drewN nq = wq := ⟨_, rfl⟩
      have HQ := Lib.hid (show wq.heap[b6]? = some (.cells (s8 ⟨sa, sb, sc, sd, se, sf, sg, sh⟩) 95 (0, 0)) ∧ wq.heap[b5]? = some (.cells V 109 (0, 0)) ∧ wq.heap[b2]? = some (.cells S0 95 (0, 0)) ∧ wq.heap[b4]? = some (.cells Z8 95 (0, 0)) ∧ Below b2 w wq by
        rw [← hwq]
        exact ⟨H6.out, H5.out, H2.out, H4.out, pw_below_drewN HBL.out nq⟩)
      rw [hwq]
      clear hwq H6 H5 H2 H4 HBL
      obtain ⟨⟨c0, c1, c2, c3, c4, c5, c6, c7⟩, ck, cw⟩ := HALL.out wq HQ.out.1 HQ.out.2.1 HQ.out.2.2.2.2
      have hmj := HMJ.out
      go_wp2_with fail
      go_quiet ((go_at_call 67; exact HT2.out _ _))
      clear hmj c0 c1 c2 c3 c4 c5 c6 c7 ck cw
      obtain ⟨Q1, hQ1⟩ : ∃ x, (T2 + M1) % 4294967296 = x := ⟨_, rfl⟩
      rw [hQ1]
      have HQ1 := Lib.hid hQ1
      clear hQ1
      obtain ⟨w3, hw3⟩ : ∃ wx, wq.drewN nq = wx := ⟨_, rfl⟩
      have H3 := Lib.hid (show w3.heap[b6]? = some (.cells (s8 ⟨sa, sb, sc, sd, se, sf, sg, sh⟩) 95 (0, 0)) ∧ w3.heap[b5]? = some (.cells V 109 (0, 0)) ∧ w3.heap[b2]? = some (.cells S0 95 (0, 0)) ∧ w3.heap[b4]? = some (.cells Z8 95 (0, 0)) ∧ Below b2 w w3 by
        rw [← hw3]
        exact ⟨HQ.out.1, HQ.out.2.1, HQ.out.2.2.1, HQ.out.2.2.2.1, pw_below_drewN HQ.out.2.2.2.2 nq⟩)
      rw [hw3]
      clear hw3 HQ HT1 HT2 HMJ
      obtain ⟨⟨c0, c1, c2, c3, c4, c5, c6, c7⟩, ck, cw⟩ := HALL.out w3 H3.out.1 H3.out.2.1 H3.out.2.2.2.2
      clear ck cw
      obtain ⟨OA, hOA⟩ : ∃ A, s8 ⟨sa, sb, sc, sd, se, sf, sg, sh⟩ = A := ⟨_, rfl⟩
      have H36 := Lib.hid (show w3.heap[b6]? = some (.cells OA 95 (0, 0)) from hOA ▸ H3.out.1)
      obtain ⟨NA, hNA⟩ : ∃ A, s8 ⟨(P1 + Q1) % 4294967296, sa, sb, sc, (sd + P1) % 4294967296, se, sf, sg⟩ = A := ⟨_, rfl⟩
      have HBLD := Lib.hid (show Tryd.prog.built 95 [(0, .int .u32 ((P1 + Q1) % 4294967296)), (1, .int .u32 sa), (2, .int .u32 sb), (3, .int .u32 sc), (4, .int .u32 ((sd + P1) % 4294967296)), (5, .int .u32 se), (6, .int .u32 sf), (7, .int .u32 sg)] = some NA from (s8_build ..).trans (by rw [hNA]))
      have HNS := Lib.hid (show (Tryd.prog.info? 95).map (·.size) = some NA.size ∧ OA.size = NA.size ∧ NA.all (·.oneCell') = true by
        rw [← hNA, ← hOA]
        exact ⟨s8_size _, rfl, s8_one _⟩)
      have HNA := Lib.hid hNA
      clear hOA hNA
      go_wp2_with (first | ((with_reducible show wpList _ _ _ (Oper.mk _ (Op.build _ _) _ _ _ _ :: _) _ _); (go_loud (refine wpl_build rfl 95 _ rfl #[(0, .int .u32 ((P1 + Q1) % 4294967296)), (1, .int .u32 sa), (2, .int .u32 sb), (3, .int .u32 sc), (4, .int .u32 ((sd + P1) % 4294967296)), (5, .int .u32 se), (6, .int .u32 sf), (7, .int .u32 sg)] (by first | rfl | (simp [Act.eval]; done)) NA HBLD.out ?_))) | ((with_reducible show wpList _ _ _ (Oper.mk _ (Op.store 95 _ _) _ _ _ _ :: _) _ _); (go_loud (refine wpList_store_row rfl 95 (.tmp 6) (.tmp 83) rfl b6 NA rfl rfl 95 OA H36.out HNS.out.1 HNS.out.2.1 HNS.out.2.2 ?_))))
      go_roundw
      case rel =>
        refine ⟨k + 1, by omega, by simp, Lib.hid ⟨?_, ?_, ?_, ?_, below_setRow H3.out.2.2.2.2 (by have := HORD.out; omega) _⟩⟩
        · rw [show rounds ws (k + 1) s = round (rounds ws k s) (rd kT (k : Int)) (rd ws (k : Int)) from rfl, HST.out, HKW.out.1, HKW.out.2, round_is HTT.out.1 HTT.out.2 HCM.out.1 HCM.out.2 HP1.out HQ1.out, HNA.out]
          exact setRow_heap _ _ _ _ _ _ H36.out
        · rw [setRow_other _ _ _ _ (by have := HORD.out; omega)]; exact H3.out.2.1
        · rw [setRow_other _ _ _ _ (by have := HORD.out; omega)]; exact H3.out.2.2.1
        · rw [setRow_other _ _ _ _ (by have := HORD.out; omega)]; exact H3.out.2.2.2.1
      case measure => simp only [intOf]; omega
    · obtain rfl : k = 64 := by omega
      obtain ⟨v, hv⟩ : ∃ v, rounds ws 64 s = v := ⟨_, rfl⟩
      rw [hv] at h6
      have HVV := Lib.hid hv
      have H6 := Lib.hid h6
      have H0 := Lib.hid (show wr.heap[b2]? = some (.cells (arrF (mixF s v 0)) 95 (0, 0)) from by rw [mix_0, HS0.out]; exact h2)
      clear h6 h5 h2 h4 hbl H hk hlt hv H5 H2 HV5 HS6 H2c H4c HBc
      rw [show ((64 : Nat) : Int) = 64 from rfl]
      go_wp2_with fail
      go_loopw [85] (fun i wx => ∃ k : Nat, k ≤ 8 ∧ i = .int .i64 (k : Int) ∧ Hid (wx.heap[b2]? = some (.cells (arrF (mixF s v k)) 95 (0, 0)) ∧ wx.heap[b6]? = some (.cells (s8 v) 95 (0, 0)) ∧ wx.heap[b4]? = some (.cells Z8 95 (0, 0)) ∧ Below b2 w wx)) (fun i _ => (8 - intOf i).toNat)
      case atStart => exact ⟨0, by omega, rfl, Lib.hid ⟨H0.out, H6.out, H4.out, HBL.out⟩⟩
      case round =>
        obtain ⟨k, hk, rfl, H⟩ := hrel
        obtain ⟨h2, h6, h4, hbl⟩ := H.out
        by_cases hlt : k < 8
        · have c0 := (blk_cell h2 k).trans (arrF_get _ hlt)
          have c1 := (blk_cell h6 k).trans (show (s8 v)[k]? = some (.int .u32 (v.at8 k)) by rw [s8_arr]; exact arrF_get _ hlt)
          rw [mix_at] at c0
          have f0 := blk_frozen h2 k
          obtain ⟨x, hx⟩ : ∃ x, s.at8 k = x := ⟨_, rfl⟩
          obtain ⟨y, hy⟩ : ∃ x, v.at8 k = x := ⟨_, rfl⟩
          rw [hx] at c0
          rw [hy] at c1
          have HN := Lib.hid (show ∀ u : World, u.heap[b2]? = wr.heap[b2]? → u.heap[b6]? = wr.heap[b6]? → u.heap[b4]? = wr.heap[b4]? → Below b2 w u → (u.setCell ⟨b2, k, none⟩ (.int .u32 ((x + y) % 4294967296))).heap[b2]? = some (.cells (arrF (mixF s v (k + 1))) 95 (0, 0)) ∧ (u.setCell ⟨b2, k, none⟩ (.int .u32 ((x + y) % 4294967296))).heap[b6]? = some (.cells (s8 v) 95 (0, 0)) ∧ (u.setCell ⟨b2, k, none⟩ (.int .u32 ((x + y) % 4294967296))).heap[b4]? = some (.cells Z8 95 (0, 0)) ∧ Below b2 w (u.setCell ⟨b2, k, none⟩ (.int .u32 ((x + y) % 4294967296))) from by
            intro u u2 u6 u4 ub
            refine ⟨?_, ?_, ?_, ub.setCell (p := ⟨b2, k, none⟩) (Nat.le_refl _) _⟩
            · rw [← mix_S s v hlt, hx, hy]
              exact blk_set (u2.trans h2) k _
            · rw [Below.heap_setCell _ _ _ _ (show b6 ≠ b2 by have := HORD.out; omega)]; exact u6.trans h6
            · rw [Below.heap_setCell _ _ _ _ (show b4 ≠ b2 by have := HORD.out; omega)]; exact u4.trans h4)
          have i0 : (0 : Int) ≤ (k : Int) := by omega
          have i1 : (k : Int) < 8 := by omega
          have HBX := Lib.hid hbl
          clear h2 h6 h4 hbl H hx hy
          go_wp2_with fail
          go_region
          go_wp2
          go_roundw
          case rel =>
            have := HN.out wr rfl rfl rfl HBX.out
            exact ⟨k + 1, by omega, by simp, Lib.hid ⟨this.1, this.2.1, this.2.2.1, below_drew this.2.2.2⟩⟩
          case measure => simp only [intOf]; omega
        · obtain rfl : k = 8 := by omega
          obtain ⟨RA, hRA⟩ : ∃ A, s8 (stepS s bs) = A := ⟨_, rfl⟩
          have HF := Lib.hid (show wr.heap[b2]? = some (.cells RA 95 (0, 0)) by
            rw [h2, ← hRA, ← mix_8, ← HVV.out, HWD.out])
          have HRS := Lib.hid (show (Tryd.prog.info? 95).map (·.size) = some RA.size ∧ Z8.size = RA.size ∧ RA.all (·.oneCell') = true by
            rw [← hRA, ← HZ8.out]
            exact ⟨s8_size _, rfl, s8_one _⟩)
          have HG4 := Lib.hid h4
          have HBX := Lib.hid hbl
          have HRR := Lib.hid hRA
          clear h2 h6 h4 hbl H hRA
          rw [show ((8 : Nat) : Int) = 8 from rfl]
          go_wp2_with (first | ((with_reducible show wpList _ _ _ (Oper.mk _ (Op.load _ _) _ _ _ _ :: _) _ _); (go_loud (refine wpList_load_row rfl 95 (.tmp 2) rfl b2 rfl 95 RA (0, 0) _ HF.out HU8.out rfl HRS.out.1 ?_))) | ((with_reducible show wpList _ _ _ (Oper.mk _ (Op.store _ _ _) _ _ _ _ :: _) _ _); (go_loud (refine wpList_store_row rfl 95 (.tmp 4) (.tmp 97) rfl b4 RA rfl rfl 95 Z8 HG4.out HRS.out.1 HRS.out.2.1 HRS.out.2.2 ?_))))
          exact bodyPost_ret (results_cell_row rfl _ _ b4 95 RA (0, 0) _ rfl (setRow_heap _ _ _ _ _ _ HG4.out) HU8.out rfl HRS.out.1) rfl ⟨by rw [HRR.out], by rw [HBB.out.1]; exact below_setRow HBX.out (by have := HORD.out; omega) _⟩
end Go.Proofs.YtefnpecncacepaaDoor.Hand
