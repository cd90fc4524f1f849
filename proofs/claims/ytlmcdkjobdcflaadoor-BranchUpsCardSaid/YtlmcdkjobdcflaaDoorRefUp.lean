/- The document's way up by a branch: walked. -/
import Derived.Test.YtlmcdkjobdcflaaDoorProg
import Derived.Below
import Derived.Deep.Draws
import Derived.Deep.AppendLies
import Derived.Maps.AppendAt
import Derived.OwnWalk
import Derived.Laws.BytesArg
import Derived.Laws.MakeOwn
import Derived.Laws.OwnMore
import Derived.Deep.OwnRows
import Derived.Tactics
import Derived.Lib.ConvBytes
import Derived.Laws.Slices
import Derived.WalkKit
import Derived.KernelRfl
import Derived.RowKit3
import Derived.Deep.LoopGhost
import Derived.Deep.QuietTactic
import Derived.BigQuiet
import Derived.WideLaws
import Derived.Deep.DeepCutAuto
import Derived.Deep.CutBlock
import Derived.Deep.RegionHeld3
import Derived.Laws.Rows
import Derived.Lib.AppendStr
import Derived.ArgAppend
import Derived.Laws.IdiomCopy
import Derived.OrdersHeld
import Derived.Laws.BitsLemmas
import Derived.RowKit
import Derived.StillTailTactics
import Derived.Test.YtlmcdkjobdcflaaDoorWWords
import Derived.Test.YtlmcdkjobdcflaaDoorWLast
import Derived.Test.YtlmcdkjobdcflaaDoorWMore
import Derived.Lib.Hide
import Derived.Outline
import Derived.Deep.MidRow
import Derived.Deep.WholeRow
import Derived.Deep.DrawnRows
import Derived.Deep.Cut
import Derived.Deep.CutRange
import Derived.Test.YtlmcdkjobdcflaaDoorBranA
import Derived.Test.YtlmcdkjobdcflaaDoorRefRight
namespace Go.Proofs.YtlmcdkjobdcflaaDoor.Hand
open Go Go.RowKit Go.Proofs.YtlmcdkjobdcflaaDoor.Plain Go.Proofs.YtlmcdkjobdcflaaDoor.PAll Go.Proofs.YtlmcdkjobdcflaaDoorW.PrintWords Go.Proofs.YtlmcdkjobdcflaaDoorW.PrintLast Go.Proofs.YtlmcdkjobdcflaaDoorW.PrintMore
set_option linter.unusedVariables false
set_option linter.unusedSimpArgs false
set_option maxRecDepth 100000
attribute [local go_sem ↓] Go.wp_at_zero Go.wp_at_succ
theorem run_load_rs (w : World) (a : Addr) (v : Value) (h : w.cell? a = some v) : (loadVar 28 a).run Tryd.prog w = .ok v w := by
  go_simp
attribute [-go_sem] loadVar storeVar Instr.buildSlice
set_option maxHeartbeats 8000000 in
theorem rup_calls (cnt idx : Int) (A : Option Addr) (m c : Nat) (xs : List (List Int)) (leaf : List Int) (w : World) (hm : m = xs.length) (hr : Kd.C kH w A m xs) (hc : m ≤ c) (hm2 : m ≤ 1000) (hH : Hs xs) (hl32 : leaf.length = 32) (hlb : ∀ x ∈ leaf, 0 ≤ x ∧ x < 256)
    (h0 : -9223372036854775808 ≤ cnt) (h1 : cnt ≤ 9223372036854775807) :
    Calls Tryd.prog 35 #[bV cnt idx A m c, .agg (nums .u8 leaf).toArray] w fun e w' => e = .returned (.tuple #[.agg (nums .u8 (upP cnt idx xs leaf).1).toArray, .int .i64 (upP cnt idx xs leaf).2]) ∧ Below w.heap.size w w' := by
  have hmx := Kd.C_max hr
  have HRI := Lib.hid (fun u => rright_calls cnt idx A m c u hmx h0 h1)
  have HHZ := (zero_of_info info32b).1
  have hLl : (nums .u8 leaf).length = 32 := by rw [nums_len]; exact hl32
  have hL1 := nums_one .u8 leaf
  have hZ1 := nums_one .u8 z32h
  obtain ⟨L, hL⟩ : ∃ L, nums .u8 leaf = L := ⟨_, rfl⟩
  rw [hL] at hLl hL1 ⊢
  obtain ⟨Z, hZ⟩ : ∃ Z, nums .u8 z32h = Z := ⟨_, rfl⟩
  have hZl : Z.length = 32 := by rw [← hZ]; rfl
  have HHZ2 : ∀ u : World, (zeroValue 24).run Tryd.prog u = .ok (.agg Z.toArray) u := by rw [← hZ]; exact HHZ
  obtain ⟨hA0, hL0, hZ0⟩ := alloc3 w (.cells #[.int .i64 cnt, .int .i64 idx, .slice A m c] 46) (.cells L.toArray 24) (.cells Z.toArray 24)
  have HB0 := Lib.hid (below_alloc (below_alloc (below_alloc (Below.refl w.heap.size w) (.cells #[.int .i64 cnt, .int .i64 idx, .slice A m c] 46)) (.cells L.toArray 24)) (.cells Z.toArray 24))
  have HUB := Lib.hid (And.intro Tryd.underlying46 (zero_of_info infoR9).2)
  have HU := Lib.hid Tryd.underlying24
  have hS32 := (zero_of_info info32b).2
  have HIF := Lib.hid (show ∀ X : List Value, X.length = 32 → (∀ v ∈ X, v.oneCell' = true) → (Tryd.prog.info? 24).map (·.size) = some X.length ∧ (Tryd.prog.info? 24).map (·.size) = some X.toArray.size ∧ Z.toArray.size = X.toArray.size ∧ X.toArray.size = 32 ∧ X.toArray.all (·.oneCell') = true from fun X h h1 => ⟨by rw [h]; exact hS32, by rw [List.size_toArray, h]; exact hS32, by rw [List.size_toArray, List.size_toArray, h, hZl], by rw [List.size_toArray, h], all_oneCell_toArray h1⟩)
  have HIZ := Lib.hid (HIF.out Z hZl (by rw [← hZ]; exact hZ1))
  have HILF := Lib.hid (HIF.out L hLl hL1)
  have HBU := Lib.hid (show Tryd.prog.built 24 [] = some Z.toArray by rw [← hZ]; exact built32)
  have HM := Lib.hid hm
  have HR := Lib.hid hr
  have HHX := Lib.hid hH
  have HLF := Lib.hid (And.intro hl32 (And.intro hlb hL))
  have HZZ := Lib.hid (And.intro hZ hZl)
  unfold bV at HRI ⊢
  obtain ⟨up, hup⟩ : ∃ u, upP cnt idx xs leaf = u := ⟨_, rfl⟩
  rw [hup]
  have HUP := Lib.hid hup
  obtain ⟨e0, he0⟩ : ∃ e, brightP cnt idx m = e := ⟨_, rfl⟩
  have HE0 := Lib.hid he0
  rw [he0] at HRI
  obtain ⟨W0, hW0⟩ : ∃ W0, ((w.alloc (.cells #[.int .i64 cnt, .int .i64 idx, .slice A m c] 46)).alloc (.cells L.toArray 24)).alloc (.cells Z.toArray 24) = W0 := ⟨_, rfl⟩
  rw [hW0] at hA0 hL0 hZ0 HB0
  have HA0 := Lib.hid hA0
  have HLZ0 := Lib.hid (And.intro hL0 hZ0)
  have HW0 := Lib.hid hW0
  clear HHZ hA0 hL0 hZ0 hm hr hH hl32 hlb hLl hL1 hZ1 hZ hL hZl hup he0 hW0 hS32
  by_cases hok : e0 = 0
  · subst hok
    have hgood : (1 ≤ cnt ∧ cnt ≤ 65536) ∧ (0 ≤ idx ∧ idx < cnt) := by
      have h := HE0.out
      unfold brightP at h
      by_cases hb : cnt < 1 ∨ 65536 < cnt ∨ idx < 0 ∨ cnt ≤ idx
      · rw [if_pos hb] at h
        exact absurd h (by decide)
      · omega
    obtain ⟨q, rfl⟩ : ∃ q : Nat, cnt = (q : Int) := ⟨cnt.toNat, by omega⟩
    obtain ⟨i, rfl⟩ : ∃ i : Nat, idx = (i : Int) := ⟨idx.toNat, by omega⟩
    have hval : up = match upF xs i q leaf with
      | none => (z32h, 15)
      | some x => (x, 0) := by
      rw [← HUP.out]
      unfold upP
      rw [← HM.out, HE0.out, if_neg (by decide), Int.toNat_natCast, Int.toNat_natCast]
      cases upF xs i q leaf <;> rfl
    have HVAL := Lib.hid hval
    have HGD := Lib.hid hgood
    have HWI := Lib.hid (fun (lvl : Nat) (h : lvl ≤ 1000) (u : World) => rwide_calls q lvl u (by omega) (by omega))
    clear hval hgood h0 h1
    go_enter Tryd.func35, Tryd.ntmps35
    go_wp2_with ((with_reducible show wpList _ _ _ (Oper.mk _ (Op.load _ (.tmp 2)) _ _ _ _ :: _) _ _); rw [HW0.out]; (go_loud (refine wpList_load_row rfl 46 (.tmp 2) rfl w.heap.size rfl 46 #[.int .i64 (q : Int), .int .i64 (i : Int), .slice A m c] (0, 0) _ HA0.out HUB.out.1 rfl HUB.out.2 ?_)))
    refine (HRI.out _).mono ?_
    rintro e w1 ⟨rfl, hb1⟩
    have HB1 := Lib.hid (HB0.out.trans (Below.mono hb1 HB0.out.size))
    have hA1 : w1.heap[w.heap.size]? = _ := (hb1.block _ (blk_lt HA0.out)).trans HA0.out
    have hL1 : w1.heap[w.heap.size + 1]? = _ := (hb1.block _ (blk_lt HLZ0.out.1)).trans HLZ0.out.1
    have hZ1 : w1.heap[w.heap.size + 1 + 1]? = _ := (hb1.block _ (blk_lt HLZ0.out.2)).trans HLZ0.out.2
    have HSS := Lib.hid (show ∀ u : World, Below w1.heap.size w1 u → (loadVar 3 ⟨w.heap.size, 1, none⟩).run Tryd.prog u = .ok (.int .i64 (i : Int)) u ∧ u.rangeAt (w.heap.size + 1) 0 L from fun u h =>
      ⟨run_load_i64 _ _ _ ((blk_cell ((h.block _ (blk_lt hA1)).trans hA1) 1).trans rfl), fun j v hj => by
        rw [Nat.zero_add, blk_cell ((h.block _ (blk_lt hL1)).trans hL1), List.getElem?_toArray]
        exact hj⟩)
    have HN1 := Lib.hid (And.intro hA1 hZ1)
    clear hb1 hA1 hL1 hZ1
    have hu := HU.out
    have hi2 := HILF.out.1
    go_wp2_with fail
    have HBD := Lib.hid (below_drew (Below.refl w1.heap.size w1))
    have hHeld := HSS.out _ HBD.out
    refine wp_region_held (S := fun u => (loadVar 3 ⟨w.heap.size, 1, none⟩).run Tryd.prog u = .ok (.int .i64 (i : Int)) u ∧ u.rangeAt (w.heap.size + 1) 0 L) (by kernel_rfl) ?_
    change wpAnyH _ _ _ _ _ _ _ _ (World.drew _)
    refine wpAnyH_take (i := 0) (oi := ({ dst := some 19, op := Op.load 24 (Operand.tmp 3), type := 24, pos := "ref.go:45", after := #[], guard := none } : Oper)) (v := .agg L.toArray) rfl (by kernel_rfl) (by kernel_rfl) (by kernel_rfl) (fun _ _ _ h => h) (yieldsIf_load_mid (by rfl) _ _ rfl (w.heap.size + 1) 0 rfl L _ (fun _ h => h.2) hu rfl hi2) hHeld ?_
    simp only [Act.put, List.setIfInBounds_toArray, List.set_cons_zero, List.set_cons_succ]
    refine wpAnyH_take (i := 1) (oi := ({ dst := some 20, op := Op.fieldAddr 46 (Operand.tmp 2) 1, type := 0, pos := "ref.go:45", after := #[{ on := 4, ground := Ground.gcOnly Departure.lateStores }], guard := none } : Oper)) (v := .pointer (some ⟨w.heap.size, 1, none⟩)) rfl (by kernel_rfl) (by kernel_rfl) (by kernel_rfl) (fun _ _ _ h => h) (Or.inl ⟨by rfl, fun w hSw => by go_simp⟩) hHeld ?_
    simp only [Act.put, List.setIfInBounds_toArray, List.set_cons_zero, List.set_cons_succ]
    refine wpAnyH_take (i := 2) (oi := ({ dst := some 21, op := Op.load 3 (Operand.tmp 20), type := 3, pos := "ref.go:45", after := #[{ on := 1, ground := Ground.data }, { on := 4, ground := Ground.gcOnly Departure.lateStores }], guard := none } : Oper)) (v := .int .i64 (i : Int)) rfl (by kernel_rfl) (by kernel_rfl) (by kernel_rfl) (fun _ _ _ h => h) (Or.inl ⟨by rfl, fun w hSw => by obtain ⟨z0, z2⟩ := hSw; go_simp⟩) hHeld ?_
    simp only [Act.put, List.setIfInBounds_toArray, List.set_cons_zero, List.set_cons_succ]
    have HB3 := Lib.hid (below_drew (below_alloc (Below.refl w1.heap.size w1) (.cells Z.toArray 24)))
    have HK3 := Lib.hid (heap_alloc_new w1 (.cells Z.toArray 24))
    have HB4 := Lib.hid (below_setRow HB3.out (Nat.le_refl _) L.toArray)
    refine wpAnyH_ready (rs := [3]) (by kernel_rfl) (by simp) ?_
    refine AllReadyH.cons (o := ({ dst := some 7, op := Op.alloc 24, type := 0, pos := "ref.go:45", after := #[], guard := none } : Oper)) rfl (fun K hK => ?_) AllReadyH.nil
    go_simp
    refine hK.out _ _ (HSS.out _ HB3.out) (fun hHeld => ?_)
    clear hK K
    try simp only [Act.put, List.setIfInBounds_toArray, List.set_cons_zero, List.set_cons_succ]
    refine wpAnyH_ready (rs := [4]) (by kernel_rfl) (by simp) ?_
    refine AllReadyH.cons (o := ({ dst := none, op := Op.store 24 (Operand.tmp 7) (Operand.tmp 19), type := 0, pos := "ref.go:45", after := #[{ on := 3, ground := Ground.data }, { on := 0, ground := Ground.data }, { on := 0, ground := Ground.phase }, { on := 1, ground := Ground.textOnly Departure.lateStores }, { on := 2, ground := Ground.textOnly Departure.lateStores }, { on := 3, ground := Ground.phase }], guard := none } : Oper)) rfl (fun K hK => ?_) AllReadyH.nil
    rw [if_pos (by rfl)]
    refine wp_store_row 24 (.tmp 7) (.tmp 19) rfl w1.heap.size L.toArray (by rfl) (by rfl) 24 Z.toArray HK3.out HILF.out.2.1 HILF.out.2.2.1 HILF.out.2.2.2.2 ?_
    refine hK.out _ _ (HSS.out _ HB4.out) (fun hHeld => ?_)
    clear hK K
    try simp only [Act.put, List.setIfInBounds_toArray, List.set_cons_zero, List.set_cons_succ]
    refine wpAnyH_take (i := 5) (oi := ({ dst := some 8, op := Op.assign (Operand.tmp 21), type := 3, pos := "ref.go:45", after := #[{ on := 2, ground := Ground.data }, { on := 4, ground := Ground.chain }, { on := 0, ground := Ground.phase }, { on := 1, ground := Ground.phase }, { on := 2, ground := Ground.phase }, { on := 3, ground := Ground.phase }, { on := 4, ground := Ground.phase }], guard := none } : Oper)) (v := .int .i64 (i : Int)) rfl (by kernel_rfl) (by kernel_rfl) (by kernel_rfl) (fun _ _ _ h => h) (Or.inl ⟨by rfl, fun w hSw => by go_simp⟩) hHeld ?_
    simp only [Act.put, List.setIfInBounds_toArray, List.set_cons_zero, List.set_cons_succ]
    refine wpAnyH_done (by kernel_rfl) ?_ _
    clear hHeld hi2
    have HN4 := Lib.hid (show ((w1.alloc (.cells Z.toArray 24)).drew.setRow w1.heap.size L.toArray).heap[w1.heap.size]? = some (.cells L.toArray 24 (0, 0)) from setRow_heap _ _ _ _ _ _ HK3.out)
    obtain ⟨W4, hW4⟩ : ∃ W, (w1.alloc (.cells Z.toArray 24)).drew.setRow w1.heap.size L.toArray = W := ⟨_, rfl⟩
    rw [hW4] at HB4 HN4 ⊢
    have HS1 := Lib.hid (show w.heap.size ≤ w1.heap.size from HB1.out.size)
    have HAB := Lib.hid (show W4.heap[w.heap.size]? = some (.cells #[.int .i64 (q : Int), .int .i64 (i : Int), .slice A m c] 46 (0, 0)) ∧ W4.heap[w.heap.size + 1 + 1]? = some (.cells Z.toArray 24 (0, 0)) ∧ Below w.heap.size w W4 from ⟨(HB4.out.block _ (blk_lt HN1.out.1)).trans HN1.out.1, (HB4.out.block _ (blk_lt HN1.out.2)).trans HN1.out.2, HB1.out.trans (Below.mono HB4.out HS1.out)⟩)
    clear hW4 HB3 HK3
    have HNE := Lib.hid (show w.heap.size < w1.heap.size ∧ w.heap.size + 1 + 1 < w1.heap.size from ⟨blk_lt HN1.out.1, blk_lt HN1.out.2⟩)
    go_wp2_with fail
    go_loopw [8, 9] (fun vp vk wr => ∃ (k p : Nat) (lf : List Int), vp = .int .i64 (p : Int) ∧ vk = .int .i64 (k : Int) ∧ Hid ((k ≤ m ∧ p ≤ 65536) ∧ (lf.length = 32 ∧ ∀ x ∈ lf, 0 ≤ x ∧ x < 256) ∧ wr.heap[w1.heap.size]? = some (.cells (nums .u8 lf).toArray 24 (0, 0)) ∧ (wr.heap[w.heap.size]? = some (.cells #[.int .i64 (q : Int), .int .i64 (i : Int), .slice A m c] 46 (0, 0)) ∧ wr.heap[w.heap.size + 1 + 1]? = some (.cells Z.toArray 24 (0, 0)) ∧ Below w.heap.size w wr) ∧ upF (xs.drop k) p (wideP q k) lf = upF xs i q leaf)) (fun _ vk _ => m + 1 - (intOf vk).toNat)
    case atStart =>
      exact ⟨0, i, leaf, rfl, rfl, Lib.hid ⟨⟨Nat.zero_le _, by have := HGD.out; omega⟩, ⟨HLF.out.1, HLF.out.2.1⟩, by rw [HLF.out.2.2]; exact HN4.out, HAB.out, by rw [List.drop_zero]; rfl⟩⟩
    case round =>
      obtain ⟨k, p, lf, rfl, rfl, H⟩ := hrel
      have hlen : m ≤ 1000 := hm2
      by_cases hlt : k < m
      · obtain ⟨⟨hkm, hp1⟩, hlf, hNd, ⟨hBr, hZr, hBw⟩, heq⟩ := H.out
        have hCw := Kd.C_below HR.out hBw
        obtain ⟨b, o, rfl, hbl, hrg⟩ := C_hash (w := wr) (A := A) (xs := xs) (by rw [← HM.out]; exact hCw) (by rw [← HM.out]; omega)
        obtain ⟨hrg1, hrl⟩ := hrg k (by rw [← HM.out]; exact hlt)
        rw [upF_cons (by rw [← HM.out]; exact hlt)] at heq
        have hhb := HHX.out.any k
        obtain ⟨hh, hhe⟩ : ∃ x, rdH xs k = x := ⟨_, rfl⟩
        rw [hhe] at hhb hrg1 hrl heq
        obtain ⟨nn, hnn⟩ : ∃ x, wideP q k = x := ⟨_, rfl⟩
        have hq := HGD.out
        have hnn1 : 1 ≤ nn := by rw [← hnn]; exact wideP_pos (by omega) k
        have hnn2 : nn ≤ 65536 := by have := wideP_le q k; omega
        have hnx : wideP q (k + 1) = (nn + 1) / 2 := by rw [← hnn]; rfl
        have HW := Lib.hid (HWI.out k (by omega))
        rw [hnn] at HW heq
        have hHl : (nums .u8 hh).length = 32 := by rw [nums_len]; exact hhb.1
        have hLl2 : (nums .u8 lf).length = 32 := by rw [nums_len]; exact hlf.1
        have HPE := Lib.hid (fun u => rpair_calls lf hh u hlf.1 hhb.1 hlf.2 hhb.2)
        have HPO := Lib.hid (fun u => rpair_calls hh lf u hhb.1 hlf.1 hhb.2 hlf.2)
        have q0 := fun u => eqR lf hh hlf.1 hhb.1 u
        have HIC := Lib.hid (HIF.out (nums .u8 hh) hHl (nums_one _ _))
        have HIL := Lib.hid (HIF.out (nums .u8 lf) hLl2 (nums_one _ _))
        obtain ⟨HC, hHC⟩ : ∃ x, nums .u8 hh = x := ⟨_, rfl⟩
        obtain ⟨LC, hLC⟩ : ∃ x, nums .u8 lf = x := ⟨_, rfl⟩
        rw [hHC] at q0 hrg1 HIC HPE HPO
        rw [hLC] at q0 hNd HIL HPE HPO
        have HRG := Lib.hid hrg1
        have hld2 := run_load_rs wr ⟨w.heap.size, 2, none⟩ _ ((blk_cell hBr 2).trans rfl)
        have hld0 := run_load_i64 (wr.alloc (.cells HC.toArray 24)) ⟨w.heap.size, 0, none⟩ _ ((blk_cell (blk_alloc hBr _) 0).trans rfl)
        have HBA := Lib.hid (below_alloc hBw (.cells HC.toArray 24))
        have HNA := Lib.hid (heap_alloc_new wr (.cells HC.toArray 24))
        have HLA := Lib.hid (blk_alloc hNd (.cells HC.toArray 24))
        have HRA := Lib.hid (And.intro (blk_alloc hBr (.cells HC.toArray 24)) (blk_alloc hZr (.cells HC.toArray 24)))
        have HEQ := Lib.hid heq
        have HNUM := Lib.hid (show (k < m ∧ p ≤ 65536 ∧ 1 ≤ nn ∧ nn ≤ 65536) ∧ hh.length = 32 ∧ lf.length = 32 ∧ wideP q (k + 1) = (nn + 1) / 2 from ⟨⟨hlt, hp1, hnn1, hnn2⟩, hhb.1, hlf.1, hnx⟩)
        have hwp : IntKind.i64.wrap ((p : Int) + 1) = (p : Int) + 1 := IntWalk.i64_in _ (by omega)
        have g5 : (0 : Int) ≤ (k : Int) := by omega
        have g6 : (k : Int) < (m : Int) := by omega
        clear hlf hhb hHl hLl2 hHC hLC hrg1 hrg hhe hBw hNd hBr hZr heq hbl H hCw hkm hrl hnn hnn1 hnn2 hnx
        go_wp2_with (first
          | ((with_reducible show wpList _ _ _ (Oper.mk _ (Op.load _ (.tmp 32)) _ _ _ _ :: _) _ _); (go_loud (refine wpList_load_mid rfl 24 (.tmp 32) rfl b (o + k * 32) rfl HC _ HRG.out HU.out rfl HIC.out.1 ?_)))
          | ((with_reducible show wpList _ _ _ (Oper.mk _ (Op.store _ (.tmp 10) _) _ _ _ _ :: _) _ _); (go_loud (refine wpl_store_new rfl 24 (.tmp 10) (.tmp 33) rfl Z.toArray HC.toArray rfl rfl HIC.out.2.1 HIC.out.2.2.1 HIC.out.2.2.2.2 ?_))))
        (with_reducible refine (HW.out _).mono ?_)
        rintro e w3 ⟨rfl, ⟨m3, rfl⟩⟩
        have HBW := Lib.hid (pw_below_drewN HBA.out m3)
        have HNB := Lib.hid (blk_drewN HNA.out m3)
        have HLB := Lib.hid (blk_drewN HLA.out m3)
        have HRB := Lib.hid (And.intro (blk_drewN HRA.out.1 m3) (blk_drewN HRA.out.2 m3))
        obtain ⟨W5, hW5⟩ : ∃ W, (wr.alloc (.cells HC.toArray 24)).drewN m3 = W := ⟨_, rfl⟩
        rw [hW5] at HBW HNB HLB HRB ⊢
        clear hW5 HBA HNA HLA HRA hld0 hld2
        obtain ⟨sm, hsm⟩ : ∃ x, (lf == hh) = x := ⟨_, rfl⟩
        obtain ⟨bl, hbl9⟩ : ∃ x, ((p : Int) + 1 == (nn : Int)) = x := ⟨_, rfl⟩
        obtain ⟨pe, hpe⟩ : ∃ x, (p % 2 == 0) = x := ⟨_, rfl⟩
        rw [hsm] at q0
        have hbl2 : (p == nn - 1) = bl := by
          have hx := HNUM.out
          rw [← hbl9, Bool.eq_iff_iff]
          simp only [beq_iff_eq]
          omega
        have hsm2 : (hh == lf) = sm := by
          rw [← hsm, Bool.eq_iff_iff]
          simp only [beq_iff_eq]
          exact ⟨Eq.symm, Eq.symm⟩
        obtain ⟨er, her⟩ : ∃ x, ((pe && bl) != sm) = x := ⟨_, rfl⟩
        have HER := Lib.hid (show ((p % 2 == 0 && p == nn - 1) != (hh == lf)) = er by rw [hpe, hbl2, hsm2, her])
        have HPE2 := Lib.hid hpe
        clear hbl2 hsm2 hsm hpe
        go_upto_region 11 with (first
          | ((with_reducible show wpList _ _ _ (Oper.mk _ (Op.load _ (.tmp 7)) _ _ _ _ :: _) _ _); (go_loud (refine wpList_load_row rfl 24 (.tmp 7) rfl w1.heap.size rfl 24 LC.toArray (0, 0) _ HLB.out HU.out rfl HIL.out.2.1 ?_)))
          | ((with_reducible show wpList _ _ _ (Oper.mk _ (Op.load _ (.tmp 10)) _ _ _ _ :: _) _ _); (go_loud (refine wpList_load_row rfl 24 (.tmp 10) rfl wr.heap.size rfl 24 HC.toArray (0, 0) _ HNB.out HU.out rfl HIC.out.2.1 ?_))))
        clear q0
        go_cut [65] from 22 to 77 (fun x wx => x = .bool er ∧ wx = W5)
        case first =>
          by_cases ev : p % 2 = 0
          · have e1 : (p : Int) % 2 = 0 := by omega
            have hpe : true = pe := by rw [← HPE2.out]; simpa using ev
            subst hpe
            cases bl <;> cases sm <;> subst her <;> (go_wp2_with fail; go_meet; exact ⟨by first | rfl | simp [e1], rfl⟩)
          · have e1 : ¬ (p : Int) % 2 = 0 := by omega
            have hpe : false = pe := by rw [← HPE2.out]; simpa using ev
            subst hpe
            cases bl <;> cases sm <;> subst her <;> (go_wp2_with fail; go_meet; exact ⟨by first | rfl | simp [e1], rfl⟩)
        case rest =>
          obtain ⟨rfl, rfl⟩ := hcut
          clear hbl9
          cases er with
          | true =>
            as_aux_lemma =>
              have hval2 : up = (z32h, 15) := by
                have h := HEQ.out
                rw [HER.out, if_pos (by decide)] at h
                rw [HVAL.out, ← h]
              subst hval2
              have hze : (nums .u8 z32h).toArray = Z.toArray := by rw [HZZ.out.1]
              go_wp2_with (first
                | ((with_reducible show wpList _ _ _ (Oper.mk _ (Op.build _ _) _ _ _ _ :: _) _ _); (go_loud (refine wpl_build rfl 24 _ rfl #[] (by simp [Act.eval]) Z.toArray HBU.out ?_)))
                | ((with_reducible show wpList _ _ _ (Oper.mk _ (Op.store _ (.tmp 4) _) _ _ _ _ :: _) _ _); (go_loud (refine wpList_store_row rfl 24 (.tmp 4) (.tmp 66) rfl (w.heap.size + 1 + 1) Z.toArray rfl rfl 24 Z.toArray HRB.out.2 HIZ.out.2.1 rfl HIZ.out.2.2.2.2 ?_))))
              try rw [hze]
              exact bodyPost_ret (results_ct rfl _ _ (w.heap.size + 1 + 1) 24 Z.toArray (0, 0) _ rfl (setRow_heap _ _ _ _ _ _ HRB.out.2) HU.out rfl HIZ.out.2.1) rfl ⟨rfl, below_setRow HBW.out (by omega) _⟩
          | false =>
            clear her
            by_cases ev : p % 2 = 0
            · as_aux_lemma =>
                have e1 : (p : Int) % 2 = 0 := by omega
                obtain ⟨tw, htw⟩ : ∃ x, twiceP (lf ++ hh) = x := ⟨_, rfl⟩
                have HEQ2 := Lib.hid (show upF (xs.drop (k + 1)) (p / 2) (wideP q (k + 1)) tw = upF xs i q leaf from by
                  have h := HEQ.out
                  rw [HER.out, if_neg (by decide), if_pos ev, htw] at h
                  rw [HNUM.out.2.2.2]
                  exact h)
                have HTL := Lib.hid (show tw.length = 32 ∧ ∀ x ∈ tw, 0 ≤ x ∧ x < 256 by rw [← htw]; exact ⟨twiceP_len _, twiceP_bytes _⟩)
                rw [htw] at HPE
                have HTI := Lib.hid (HIF.out (nums .u8 tw) (by rw [nums_len, HTL.out.1]) (nums_one _ _))
                have HTZ := Lib.hid (show LC.toArray.size = (nums .u8 tw).toArray.size from by rw [HIL.out.2.2.2.1, HTI.out.2.2.2.1])
                clear htw
                go_wp2_with (first
                  | ((with_reducible show wpList _ _ _ (Oper.mk _ (Op.load _ (.tmp 7)) _ _ _ _ :: _) _ _); (go_loud (refine wpList_load_row rfl 24 (.tmp 7) rfl w1.heap.size rfl 24 LC.toArray (0, 0) _ HLB.out HU.out rfl HIL.out.2.1 ?_)))
                  | ((with_reducible show wpList _ _ _ (Oper.mk _ (Op.load _ (.tmp 10)) _ _ _ _ :: _) _ _); (go_loud (refine wpList_load_row rfl 24 (.tmp 10) rfl wr.heap.size rfl 24 HC.toArray (0, 0) _ HNB.out HU.out rfl HIC.out.2.1 ?_))))
                (with_reducible refine (HPE.out _).mono ?_)
                rintro e w6 ⟨rfl, hb6⟩
                have HL6 := Lib.hid ((hb6.block _ (blk_lt HLB.out)).trans HLB.out)
                have HNEW := Lib.hid (show (w6.setRow w1.heap.size (nums .u8 tw).toArray).heap[w1.heap.size]? = some (.cells (nums .u8 tw).toArray 24 (0, 0)) ∧ (w6.setRow w1.heap.size (nums .u8 tw).toArray).heap[w.heap.size]? = _ ∧ (w6.setRow w1.heap.size (nums .u8 tw).toArray).heap[w.heap.size + 1 + 1]? = _ ∧ Below w.heap.size w (w6.setRow w1.heap.size (nums .u8 tw).toArray) from ⟨setRow_heap _ _ _ _ _ _ HL6.out, (setRow_other _ _ _ _ (by have := HNE.out; omega)).trans ((hb6.block _ (blk_lt HRB.out.1)).trans HRB.out.1), (setRow_other _ _ _ _ (by have := HNE.out; omega)).trans ((hb6.block _ (blk_lt HRB.out.2)).trans HRB.out.2), below_setRow (HBW.out.trans (Below.mono hb6 HBW.out.size)) HS1.out _⟩)
                have hwk : wrap64 ((k : Int) + 1) = ((k + 1 : Nat) : Int) := wrap64_succ (by omega)
                have hwj : wrap64 ((p : Int) / 2) = ((p / 2 : Nat) : Int) := by rw [IntWalk.wrap64_in _ ⟨by omega, by omega⟩]; omega
                have HRL := Lib.hid (show (k + 1 ≤ m ∧ p / 2 ≤ 65536) from by have := HNUM.out; omega)
                clear hb6
                go_wp2_with ((with_reducible show wpList _ _ _ (Oper.mk _ (Op.store _ (.tmp 7) _) _ _ _ _ :: _) _ _); (go_loud (refine wpList_store_row rfl 24 (.tmp 7) (.tmp 72) rfl w1.heap.size (nums .u8 tw).toArray rfl rfl 24 LC.toArray HL6.out HTI.out.2.1 HTZ.out HTI.out.2.2.2.2 ?_)))
                obtain ⟨W7, hW7⟩ : ∃ W, w6.setRow w1.heap.size (nums .u8 tw).toArray = W := ⟨_, rfl⟩
                rw [hW7] at HNEW ⊢
                clear hW7
                try rw [hwk]
                try rw [hwj]
                go_roundw
                case rel => exact ⟨k + 1, p / 2, tw, by first | rfl | (congr 1 <;> omega), by first | rfl | (congr 1 <;> omega), Lib.hid ⟨HRL.out, HTL.out, HNEW.out.1, ⟨HNEW.out.2.1, HNEW.out.2.2.1, HNEW.out.2.2.2⟩, HEQ2.out⟩⟩
                case measure => have hq := HRL.out; simp only [intOf]; omega
            · as_aux_lemma =>
                have e1 : ¬ (p : Int) % 2 = 0 := by omega
                obtain ⟨tw, htw⟩ : ∃ x, twiceP (hh ++ lf) = x := ⟨_, rfl⟩
                have HEQ2 := Lib.hid (show upF (xs.drop (k + 1)) (p / 2) (wideP q (k + 1)) tw = upF xs i q leaf from by
                  have h := HEQ.out
                  rw [HER.out, if_neg (by decide), if_neg ev, htw] at h
                  rw [HNUM.out.2.2.2]
                  exact h)
                have HTL := Lib.hid (show tw.length = 32 ∧ ∀ x ∈ tw, 0 ≤ x ∧ x < 256 by rw [← htw]; exact ⟨twiceP_len _, twiceP_bytes _⟩)
                rw [htw] at HPO
                have HTI := Lib.hid (HIF.out (nums .u8 tw) (by rw [nums_len, HTL.out.1]) (nums_one _ _))
                have HTZ := Lib.hid (show LC.toArray.size = (nums .u8 tw).toArray.size from by rw [HIL.out.2.2.2.1, HTI.out.2.2.2.1])
                clear htw
                go_wp2_with (first
                  | ((with_reducible show wpList _ _ _ (Oper.mk _ (Op.load _ (.tmp 7)) _ _ _ _ :: _) _ _); (go_loud (refine wpList_load_row rfl 24 (.tmp 7) rfl w1.heap.size rfl 24 LC.toArray (0, 0) _ HLB.out HU.out rfl HIL.out.2.1 ?_)))
                  | ((with_reducible show wpList _ _ _ (Oper.mk _ (Op.load _ (.tmp 10)) _ _ _ _ :: _) _ _); (go_loud (refine wpList_load_row rfl 24 (.tmp 10) rfl wr.heap.size rfl 24 HC.toArray (0, 0) _ HNB.out HU.out rfl HIC.out.2.1 ?_))))
                (with_reducible refine (HPO.out _).mono ?_)
                rintro e w6 ⟨rfl, hb6⟩
                have HL6 := Lib.hid ((hb6.block _ (blk_lt HLB.out)).trans HLB.out)
                have HNEW := Lib.hid (show (w6.setRow w1.heap.size (nums .u8 tw).toArray).heap[w1.heap.size]? = some (.cells (nums .u8 tw).toArray 24 (0, 0)) ∧ (w6.setRow w1.heap.size (nums .u8 tw).toArray).heap[w.heap.size]? = _ ∧ (w6.setRow w1.heap.size (nums .u8 tw).toArray).heap[w.heap.size + 1 + 1]? = _ ∧ Below w.heap.size w (w6.setRow w1.heap.size (nums .u8 tw).toArray) from ⟨setRow_heap _ _ _ _ _ _ HL6.out, (setRow_other _ _ _ _ (by have := HNE.out; omega)).trans ((hb6.block _ (blk_lt HRB.out.1)).trans HRB.out.1), (setRow_other _ _ _ _ (by have := HNE.out; omega)).trans ((hb6.block _ (blk_lt HRB.out.2)).trans HRB.out.2), below_setRow (HBW.out.trans (Below.mono hb6 HBW.out.size)) HS1.out _⟩)
                have hwk : wrap64 ((k : Int) + 1) = ((k + 1 : Nat) : Int) := wrap64_succ (by omega)
                have hwj : wrap64 ((p : Int) / 2) = ((p / 2 : Nat) : Int) := by rw [IntWalk.wrap64_in _ ⟨by omega, by omega⟩]; omega
                have HRL := Lib.hid (show (k + 1 ≤ m ∧ p / 2 ≤ 65536) from by have := HNUM.out; omega)
                clear hb6
                go_wp2_with ((with_reducible show wpList _ _ _ (Oper.mk _ (Op.store _ (.tmp 7) _) _ _ _ _ :: _) _ _); (go_loud (refine wpList_store_row rfl 24 (.tmp 7) (.tmp 75) rfl w1.heap.size (nums .u8 tw).toArray rfl rfl 24 LC.toArray HL6.out HTI.out.2.1 HTZ.out HTI.out.2.2.2.2 ?_)))
                obtain ⟨W7, hW7⟩ : ∃ W, w6.setRow w1.heap.size (nums .u8 tw).toArray = W := ⟨_, rfl⟩
                rw [hW7] at HNEW ⊢
                clear hW7
                try rw [hwk]
                try rw [hwj]
                go_roundw
                case rel => exact ⟨k + 1, p / 2, tw, by first | rfl | (congr 1 <;> omega), by first | rfl | (congr 1 <;> omega), Lib.hid ⟨HRL.out, HTL.out, HNEW.out.1, ⟨HNEW.out.2.1, HNEW.out.2.2.1, HNEW.out.2.2.2⟩, HEQ2.out⟩⟩
                case measure => have hq := HRL.out; simp only [intOf]; omega
      · obtain ⟨⟨hkm, hp1⟩, hlf, hNd, ⟨hBr, hZr, hBw⟩, heq⟩ := H.out
        have hn0 : xs.length ≤ k := by rw [← HM.out]; omega
        rw [upF_nil hn0] at heq
        have hval : up = (lf, 0) := by rw [HVAL.out, ← heq]
        subst hval
        have HIL := Lib.hid (HIF.out (nums .u8 lf) (by rw [nums_len]; exact hlf.1) (nums_one _ _))
        obtain ⟨LC, hLC⟩ : ∃ x, nums .u8 lf = x := ⟨_, rfl⟩
        rw [hLC] at hNd HIL
        have hlv : (nums .u8 lf).toArray = LC.toArray := by rw [hLC]
        have HND := Lib.hid hNd
        have HZA := Lib.hid hZr
        have HBW := Lib.hid hBw
        have hld2 := run_load_rs wr ⟨w.heap.size, 2, none⟩ _ ((blk_cell hBr 2).trans rfl)
        have g6 : ¬ (k : Int) < (m : Int) := by omega
        clear hlf hBw hNd hBr hZr heq H hLC hn0
        go_wp2_with (first
          | ((with_reducible show wpList _ _ _ (Oper.mk _ (Op.load _ (.tmp 7)) _ _ _ _ :: _) _ _); (go_loud (refine wpList_load_row rfl 24 (.tmp 7) rfl w1.heap.size rfl 24 LC.toArray (0, 0) _ HND.out HU.out rfl HIL.out.2.1 ?_)))
          | ((with_reducible show wpList _ _ _ (Oper.mk _ (Op.store _ (.tmp 4) _) _ _ _ _ :: _) _ _); (go_loud (refine wpList_store_row rfl 24 (.tmp 4) (.tmp 78) rfl (w.heap.size + 1 + 1) LC.toArray rfl rfl 24 Z.toArray HZA.out HIL.out.2.1 HIL.out.2.2.1 HIL.out.2.2.2.2 ?_))))
        try rw [hlv]
        exact bodyPost_ret (results_ct rfl _ _ (w.heap.size + 1 + 1) 24 LC.toArray (0, 0) _ rfl (setRow_heap _ _ _ _ _ _ HZA.out) HU.out rfl HIL.out.2.1) rfl ⟨rfl, below_setRow HBW.out (by omega) _⟩
  · go_enter Tryd.func35, Tryd.ntmps35
    go_wp2_with ((with_reducible show wpList _ _ _ (Oper.mk _ (Op.load _ (.tmp 2)) _ _ _ _ :: _) _ _); rw [HW0.out]; (go_loud (refine wpList_load_row rfl 46 (.tmp 2) rfl w.heap.size rfl 46 #[.int .i64 cnt, .int .i64 idx, .slice A m c] (0, 0) _ HA0.out HUB.out.1 rfl HUB.out.2 ?_)))
    refine (HRI.out _).mono ?_
    rintro e w1 ⟨rfl, hb1⟩
    have HB1 := Lib.hid (HB0.out.trans (Below.mono hb1 HB0.out.size))
    have HZ1 := Lib.hid ((hb1.block _ (blk_lt HLZ0.out.2)).trans HLZ0.out.2)
    clear hb1
    go_wp2_with (first
      | ((with_reducible show wpList _ _ _ (Oper.mk _ (Op.build _ _) _ _ _ _ :: _) _ _); (go_loud (refine wpl_build rfl 24 _ rfl #[] (by simp [Act.eval]) Z.toArray HBU.out ?_)))
      | ((with_reducible show wpList _ _ _ (Oper.mk _ (Op.store _ _ _) _ _ _ _ :: _) _ _); (go_loud (refine wpList_store_row rfl 24 (.tmp 4) (.tmp 17) rfl (w.heap.size + 1 + 1) Z.toArray rfl rfl 24 Z.toArray HZ1.out HIZ.out.2.1 rfl HIZ.out.2.2.2.2 ?_))))
    have hval : up = (z32h, e0) := by rw [← HUP.out]; unfold upP; rw [← HM.out, HE0.out, if_pos hok]
    subst hval
    have hze : (nums .u8 z32h).toArray = Z.toArray := by rw [HZZ.out.1]
    try rw [hze]
    exact bodyPost_ret (results_ct rfl _ _ (w.heap.size + 1 + 1) 24 Z.toArray (0, 0) _ rfl (setRow_heap _ _ _ _ _ _ HZ1.out) HU.out rfl HIZ.out.2.1) rfl ⟨rfl, below_setRow HB1.out (by omega) _⟩
end Go.Proofs.YtlmcdkjobdcflaaDoor.Hand
