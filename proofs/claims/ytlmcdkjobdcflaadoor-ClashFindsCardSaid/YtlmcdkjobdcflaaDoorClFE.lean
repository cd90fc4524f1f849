/- Several texts in one. -/
import Derived.Test.YtlmcdkjobdcflaaDoorProg
import Derived.Below
import Derived.Deep.Draws
import Derived.Deep.AppendLies
import Derived.Maps.AppendAt
import Derived.OwnWalk
import Derived.Laws.BytesArg
import Derived.Laws.MakeOwn
import Derived.Laws.OwnMore
import Derived.Deep.OwnRows
import Derived.Tactics
import Derived.Lib.ConvBytes
import Derived.Laws.Slices
import Derived.WalkKit
import Derived.KernelRfl
import Derived.RowKit3
import Derived.Deep.LoopGhost
import Derived.Deep.QuietTactic
import Derived.BigQuiet
import Derived.WideLaws
import Derived.Deep.DeepCutAuto
import Derived.Deep.CutBlock
import Derived.Deep.RegionHeld3
import Derived.Laws.Rows
import Derived.Lib.AppendStr
import Derived.ArgAppend
import Derived.Laws.IdiomCopy
import Derived.OrdersHeld
import Derived.Laws.BitsLemmas
import Derived.RowKit
import Derived.StillTailTactics
import Derived.Test.YtlmcdkjobdcflaaDoorWWords
import Derived.Test.YtlmcdkjobdcflaaDoorWLast
import Derived.Test.YtlmcdkjobdcflaaDoorWMore
import Derived.Lib.Hide
import Derived.Outline
import Derived.Deep.MidRow
import Derived.Deep.WholeRow
import Derived.Deep.DrawnRows
import Derived.Deep.Cut
import Derived.Deep.CutRange
import Derived.Test.YtlmcdkjobdcflaaDoorClFD
import Derived.Carry
import Derived.Test.YtlmcdkjobdcflaaDoorClFB
/- What the document's Extract tells (mastheadref10.Extract): walked. -/
namespace Go.Proofs.YtlmcdkjobdcflaaDoor.Hand
open Go Go.RowKit Go.Proofs.YtlmcdkjobdcflaaDoor.Plain Go.Proofs.YtlmcdkjobdcflaaDoor.PAll Go.Proofs.YtlmcdkjobdcflaaDoorW.PrintWords Go.Proofs.YtlmcdkjobdcflaaDoorW.PrintLast Go.Proofs.YtlmcdkjobdcflaaDoorW.PrintMore
set_option linter.unusedVariables false
set_option linter.unusedSimpArgs false
set_option maxRecDepth 100000
attribute [local go_sem ↓] Go.wp_at_zero Go.wp_at_succ
attribute [-go_sem] loadVar storeVar Instr.buildSlice
theorem okR_hh {a b : List Int} (ha : a.length = 32 ∧ ∀ x ∈ a, 0 ≤ x ∧ x < 256) (hb : b.length = 32 ∧ ∀ x ∈ b, 0 ≤ x ∧ x < 256) : okR (a ++ b) := ⟨(okT_hh ha hb).1, by rw [List.length_append, ha.1, hb.1]; decide⟩
theorem textsAt_okR {yss : List (List Int)} (hy : ∀ ys ∈ yss, okR ys) : ∀ k, ∀ ys ∈ textsAt yss k, okR ys
  | 0, ys, h => hy ys h
  | k + 1, ys, h => by
    rw [textsAt] at h
    rcases List.mem_append.1 h with h | h
    · exact textsAt_okR hy k ys h
    · simp only [rowT, List.mem_map] at h
      obtain ⟨i, _, rfl⟩ := h
      have hH : Hs (lev (yss.map twiceP) k) := lev_Hs (fun p hp => by
        obtain ⟨y, _, rfl⟩ := List.mem_map.1 hp
        exact ⟨twiceP_len _, twiceP_bytes _⟩) k
      exact okR_hh (hH.any _) (hH.any _)
theorem claimL_okR : ∀ (xs : List (List Int)) (p : Nat) (node : List Int), Hs xs → (node.length = 32 ∧ ∀ x ∈ node, 0 ≤ x ∧ x < 256) → ∀ ys ∈ claimL xs p node, okR ys
  | [], _, _, _, _, ys, h => by cases h
  | x :: xs, p, node, hH, hn, ys, h => by
    rw [claimL] at h
    rcases List.mem_cons.1 h with rfl | h
    · exact stepT_okR hn (hH x (by simp))
    · exact claimL_okR xs _ _ (fun q hq => hH q (by simp [hq])) ⟨twiceP_len _, twiceP_bytes _⟩ ys h
theorem claimP_okR {cnt idx : Int} {xs : List (List Int)} {text : List Int} (hx : Hs xs) (ht : okR text) : ∀ ys ∈ claimP cnt idx xs text, okR ys := by
  intro ys h
  unfold claimP at h
  by_cases hb : brightP cnt idx xs.length ≠ 0
  · rw [if_pos hb] at h
    simp at h
  · rw [if_neg hb] at h
    rcases List.mem_cons.1 h with rfl | h
    · exact ht
    · exact claimL_okR xs _ _ hx ⟨twiceP_len _, twiceP_bytes _⟩ ys h
def hitT (c t : List Int) : Bool := twiceP t == twiceP c && t != c
theorem pickT_at {tx : List (List Int)} {c : List Int} {j : Nat} (hj : j < tx.length) (h : ∀ t ∈ tx.take j, hitT c t = false) (h1 : hitT c tx[j] = true) : pickT tx c = some tx[j] := by
  unfold pickT
  rw [List.find?_eq_some_iff_getElem]
  refine ⟨h1, j, hj, rfl, fun i hi => ?_⟩
  have := h tx[i] (by
    rw [List.mem_iff_getElem]
    refine ⟨i, by rw [List.length_take]; omega, ?_⟩
    rw [List.getElem_take])
  unfold hitT at this
  rw [this]
  rfl
theorem pickT_non {tx : List (List Int)} {c : List Int} (h : ∀ t ∈ tx, hitT c t = false) : pickT tx c = none := by
  unfold pickT
  rw [List.find?_eq_none]
  intro t ht
  have := h t ht
  unfold hitT at this
  rw [this]
  exact Bool.false_ne_true
set_option maxHeartbeats 8000000 in
theorem rextract10_calls (A : Option Addr) (n c : Nat) (yss : List (List Int)) (text : List Int) (cnt idx : Int) (A1 : Option Addr) (m c1 : Nat) (xs : List (List Int)) (w : World) (hn : n = yss.length) (hr : Kd.C Kd.string w A n (yss.map strOfNums)) (hl : n ≤ 1000) (hy : ∀ ys ∈ yss, okR ys)
    (htx : okR text) (hm : m = xs.length) (hr1 : Kd.C kH w A1 m xs) (hc1 : m ≤ c1) (hm2 : m ≤ 1000) (hH : Hs xs) (h0 : -9223372036854775808 ≤ cnt) (h1 : cnt ≤ 9223372036854775807) :
    Calls Tryd.prog 49 #[.slice A n c, .string (strOfNums text), bV cnt idx A1 m c1] w fun e w' => e = .returned (.tuple #[.string (strOfNums ((extractP (textsP yss) (claimP cnt idx xs text)).getD ([], [])).1), .string (strOfNums ((extractP (textsP yss) (claimP cnt idx xs text)).getD ([], [])).2), .bool (extractP (textsP yss) (claimP cnt idx xs text)).isSome]) ∧ Below w.heap.size w w' := by
  have hk := heap_alloc_new w (.cells #[.int .i64 cnt, .int .i64 idx, .slice A1 m c1] 46)
  have hb := below_alloc (Below.refl w.heap.size w) (.cells #[.int .i64 cnt, .int .i64 idx, .slice A1 m c1] 46)
  obtain ⟨W0, hW0⟩ : ∃ W, w.alloc (.cells #[.int .i64 cnt, .int .i64 idx, .slice A1 m c1] 46) = W := ⟨_, rfl⟩
  rw [hW0] at hk hb
  have HTXS := Lib.hid (rtexts10_calls A n c yss W0 hn (Kd.C_below hr hb) hl hy)
  have HTO := Lib.hid (show (∀ ys ∈ textsP yss, okR ys) ∧ (textsP yss).length ≤ 11000 from ⟨textsAt_okR hy _, textsP_len (by omega)⟩)
  have HCO := Lib.hid (show (∀ ys ∈ claimP cnt idx xs text, okR ys) ∧ (claimP cnt idx xs text).length ≤ 1001 from ⟨claimP_okR hH htx, by have := claimP_len cnt idx xs text; omega⟩)
  have HCLM := Lib.hid (show ∀ u : World, Below w.heap.size w u → _ from fun u hu => rclaim10_calls text cnt idx A1 m c1 xs u htx hm (Kd.C_below hr1 hu) hc1 hm2 hH h0 h1)
  have HK0 := Lib.hid hk
  have HB0 := Lib.hid hb
  have HW0 := Lib.hid hW0
  have HI9 := Lib.hid (And.intro Tryd.underlying46 (zero_of_info infoR9).2)
  obtain ⟨tx, htx9⟩ : ∃ t, textsP yss = t := ⟨_, rfl⟩
  obtain ⟨cl, hcl9⟩ : ∃ t, claimP cnt idx xs text = t := ⟨_, rfl⟩
  rw [htx9] at HTXS HTO ⊢
  rw [hcl9] at HCO HCLM ⊢
  obtain ⟨E, hE⟩ : ∃ E, extractP tx cl = E := ⟨_, rfl⟩
  rw [hE]
  have HE := Lib.hid hE
  obtain ⟨ts, hts⟩ : ∃ x, strOfNums text = x := ⟨_, rfl⟩
  rw [hts] at HCLM ⊢
  unfold bV at HCLM ⊢
  have HZ := (zero_of_info info32b).1
  obtain ⟨Z, hZ⟩ : ∃ C, (nums .u8 (List.replicate 32 0)).toArray = C := ⟨_, rfl⟩
  have hZs : Z.size = 32 := by rw [← hZ]; rfl
  rw [hZ] at HZ
  have HZS := Lib.hid hZs
  clear hk hb hW0 hn hr hl hy htx hm hr1 hc1 hm2 hH h0 h1 htx9 hcl9 hE hts hZ hZs
  go_enter Tryd.func49, Tryd.ntmps49
  go_wp2_with fail
  rw [HW0.out]
  refine HTXS.out.mono ?_
  rintro e W2 ⟨v2, rfl, hv2, hb2⟩
  obtain ⟨At, ct, rfl⟩ := Kd.R_slice hv2
  obtain ⟨nt, hnt⟩ : ∃ q, (tx.map strOfNums).length = q := ⟨_, rfl⟩
  have hntx : tx.length = nt := by rw [← hnt, List.length_map]
  rw [hnt] at hv2 ⊢
  have HNT := Lib.hid (And.intro hntx (show nt ≤ 11000 from by have := HTO.out.2; omega))
  have HTX := Lib.hid (show Kd.C Kd.string W2 At nt (tx.map strOfNums) from by have h9 := (Kd.R_reads' hv2).2.2; rw [hnt] at h9; exact h9)
  have HB2 := Lib.hid (HB0.out.trans (Below.mono hb2 HB0.out.size))
  have HK2 := Lib.hid ((hb2.block _ (blk_lt HK0.out)).trans HK0.out)
  clear hv2 hb2 hnt hntx HTXS
  go_wp2_with fail
  go_loopw [10, 22] (fun v kv wr => ∃ k : Nat, kv = .int .i64 (k : Int) ∧ Hid (k ≤ nt ∧ Kd.R kH 24 wr W2.heap.size (fun _ => True) v ((tx.map twiceP).take k) ∧ Below W2.heap.size W2 wr)) (fun _ kv _ => nt + 1 - (intOf kv).toNat)
  case atStart => exact ⟨0, rfl, Lib.hid ⟨Nat.zero_le _, Kd.R_nil _ _ _ _ _, Below.refl _ _⟩⟩
  case round =>
    obtain ⟨k, rfl, H⟩ := hrel
    by_cases hlt : k < nt
    · obtain ⟨hkn, hR, hB⟩ := H.out
      have hkt : k < tx.length := by rw [HNT.out.1]; exact hlt
      obtain ⟨ad, rfl, hcell0⟩ := C_str HTX.out (by rw [List.length_map, HNT.out.1]) (i := k) (by rw [List.length_map]; exact hkt)
      rw [List.getElem_map] at hcell0
      have hok := HTO.out.1 _ (List.getElem_mem hkt)
      have htk := map_take twiceP tx hkt
      obtain ⟨ys, hys⟩ : ∃ ys, tx[k] = ys := ⟨_, rfl⟩
      rw [hys] at hcell0 hok htk
      have HTW := Lib.hid (fun u : World => rtwice_calls ys u hok.2 hok.1)
      have hTl := twiceP_len ys
      obtain ⟨s, hs⟩ : ∃ s, strOfNums ys = s := ⟨_, rfl⟩
      rw [hs] at hcell0 HTW
      have hld := run_load_st wr (ad.add k) _ (pw_cell_below hB hcell0)
      have hcm := fun (u : World) => kH_M (w := u) (base := W2.heap.size) (ok := fun _ => False) hTl
      have hbs := fun u => run_hash1r (twiceP ys) hTl u
      obtain ⟨P, hP⟩ : ∃ P, nums .u8 (twiceP ys) = P := ⟨_, rfl⟩
      rw [hP] at hbs hcm HTW
      have HCM := Lib.hid hcm
      have HTB := Lib.hid (show (((tx.map twiceP).take k).length + 1) * 32 ≤ 140737488355328 by rw [List.length_take, List.length_map]; have := HNT.out.2; omega)
      have HTK := Lib.hid htk
      have HRR := Lib.hid hR
      have HBB := Lib.hid hB
      have gk : (k : Int) < (nt : Int) := by omega
      have gk0 : (0 : Int) ≤ (k : Int) := by omega
      clear H hkn hR hB hkt hcell0 hok htk hys hTl hs hcm hP
      go_wp2_with fail
      refine (HTW.out _).mono ?_
      rintro e w3 ⟨rfl, hb3⟩
      have HB3 := Lib.hid (HBB.out.trans (Below.mono hb3 HBB.out.size))
      have HR3 := Lib.hid (Kd.R_below HRR.out hb3)
      clear hb3 hld
      go_wp2_with ((with_reducible refine gate_builtin (b := .append) (xs := #[.tmp 26, .tmp 29]) rfl ?_); at_builtin; refine Kd.R_append kH (w0 := W2) W2.heap.size rfl (.tmp 26) (.tmp 29) 28 24 (.agg (nums .u8 (List.replicate 32 0)).toArray) 32 rfl Tryd.underlying28 info32c rfl (by decide) (by decide) _ ((tx.map twiceP).take k) (twiceP ys) P (fun _ => True) (fun _ => False) rfl (by first | (go_simp; done) | (go_simp; rfl)) (HCM.out _) (fun _ h => h.elim) (fun _ _ => trivial) HR3.out HB3.out HB3.out.size HTB.out ?_; intro v4 w4 ho hb hg hat; have HR4 := Lib.hid ho; have HB4 := Lib.hid hb; clear ho hb hg hat)
      have hwk : wrap64 ((k : Int) + 1) = ((k + 1 : Nat) : Int) := by rw [IntWalk.wrap64_in _ ⟨by omega, by have := HNT.out.2; omega⟩]; omega
      try rw [hwk]
      go_roundw
      case rel => exact ⟨k + 1, rfl, Lib.hid ⟨hlt, by rw [HTK.out]; exact HR4.out, HB4.out⟩⟩
      case measure =>
        simp only [intOf]
        omega
    · obtain ⟨hkn, hR, hB⟩ := H.out
      have gk : ¬ (k : Int) < (nt : Int) := by omega
      have hte : (tx.map twiceP).take k = tx.map twiceP := List.take_of_length_le (by rw [List.length_map, HNT.out.1]; omega)
      rw [hte] at hR
      obtain ⟨As, cs, rfl⟩ := Kd.R_slice hR
      have hsl : (tx.map twiceP).length = nt := by rw [List.length_map, HNT.out.1]
      rw [hsl] at hR ⊢
      have HSC := Lib.hid (show Kd.C kH wr As (tx.map twiceP).length (tx.map twiceP) from (Kd.R_reads' hR).2.2)
      have HBB := Lib.hid hB
      have HB3 := Lib.hid (HB2.out.trans (Below.mono hB HB2.out.size))
      have HK3 := Lib.hid ((hB.block _ (blk_lt HK2.out)).trans HK2.out)
      have HCW := Lib.hid (HCLM.out wr (HB2.out.trans (Below.mono hB HB2.out.size)))
      clear H hkn hR hB hte hsl
      go_wp2_with ((with_reducible show wpList _ _ _ (Oper.mk _ (Op.load _ (.tmp 5)) _ _ _ _ :: _) _ _); (go_loud (refine wpList_load_row rfl 46 (.tmp 5) rfl w.heap.size rfl 46 #[.int .i64 cnt, .int .i64 idx, .slice A1 m c1] (0, 0) _ HK3.out HI9.out.1 rfl HI9.out.2 ?_)))
      refine HCW.out.mono ?_
      rintro e W4 ⟨v4, rfl, hv4, hb4⟩
      obtain ⟨Ac, cc, rfl⟩ := Kd.R_slice hv4
      obtain ⟨nc, hnc⟩ : ∃ q, (cl.map strOfNums).length = q := ⟨_, rfl⟩
      have hncl : cl.length = nc := by rw [← hnc, List.length_map]
      rw [hnc] at hv4 ⊢
      have HNC := Lib.hid (And.intro hncl (show nc ≤ 1001 from by have := HCO.out.2; omega))
      have HCS := Lib.hid (show Kd.C Kd.string W4 Ac nc (cl.map strOfNums) from by have h9 := (Kd.R_reads' hv4).2.2; rw [hnc] at h9; exact h9)
      have HT4 := Lib.hid (Kd.C_below (Kd.C_below HTX.out HBB.out) hb4)
      have HS4 := Lib.hid (Kd.C_below HSC.out hb4)
      have HB4 := Lib.hid (HB3.out.trans (Below.mono hb4 HB3.out.size))
      clear hv4 hb4 hnc hncl HCW HBB
      go_wp2_with fail
      go_loopw [36] (fun kv wr => ∃ k : Nat, kv = .int .i64 (k : Int) ∧ Hid (k ≤ nc ∧ (∀ c ∈ cl.take k, pickT tx c = none) ∧ Below W4.heap.size W4 wr)) (fun kv _ => nc + 1 - (intOf kv).toNat)
      case atStart => exact ⟨0, rfl, Lib.hid ⟨Nat.zero_le _, by simp, Below.refl _ _⟩⟩
      case round =>
        obtain ⟨k, rfl, H⟩ := hrel
        obtain ⟨hkn, hno, hB⟩ := H.out
        by_cases hlt : k < nc
        · have hkt : k < cl.length := by rw [HNC.out.1]; exact hlt
          obtain ⟨ad, rfl, hcell0⟩ := C_str HCS.out (by rw [List.length_map, HNC.out.1]) (i := k) (by rw [List.length_map]; exact hkt)
          rw [List.getElem_map] at hcell0
          have hok := HCO.out.1 _ (List.getElem_mem hkt)
          obtain ⟨ys, hys⟩ : ∃ ys, cl[k] = ys := ⟨_, rfl⟩
          rw [hys] at hcell0 hok
          have HYS := Lib.hid (show cl[k]? = some ys ∧ okR ys from ⟨by rw [List.getElem?_eq_getElem hkt, hys], hok⟩)
          have HTW := Lib.hid (fun u : World => rtwice_calls ys u hok.2 hok.1)
          obtain ⟨s, hs⟩ : ∃ s, strOfNums ys = s := ⟨_, rfl⟩
          rw [hs] at hcell0 HTW
          have HSS := Lib.hid hs
          have hld := run_load_st wr (ad.add k) _ (pw_cell_below hB hcell0)
          have HNO := Lib.hid hno
          have HBB := Lib.hid hB
          have hIP : ∀ X : List Int, X.length = 32 → (Tryd.prog.info? 24).map (·.size) = some (nums .u8 X).toArray.size ∧ Z.size = (nums .u8 X).toArray.size ∧ (nums .u8 X).toArray.all (·.oneCell') = true := fun X h => ⟨by rw [List.size_toArray, nums_len, h]; exact (zero_of_info info32b).2, by rw [HZS.out, List.size_toArray, nums_len, h], all_oneCell_toArray (nums_one _ _)⟩
          have HIP := Lib.hid (hIP (twiceP ys) (twiceP_len ys))
          have HI32 := Lib.hid (show ∀ X : List Int, X.length = 32 → (Tryd.prog.info? 24).map (·.size) = some (nums .u8 X).length from fun X h => by rw [nums_len, h]; exact (zero_of_info info32b).2)
          have gk : (k : Int) < (nc : Int) := by omega
          have gk0 : (0 : Int) ≤ (k : Int) := by omega
          clear H hkn hno hB hkt hcell0 hok hys hs hIP
          go_wp2_with fail
          refine (HTW.out _).mono ?_
          rintro e w5 ⟨rfl, hb5⟩
          have HB5 := Lib.hid (HBB.out.trans (Below.mono hb5 HBB.out.size))
          obtain ⟨g, hg⟩ : ∃ x, w5.heap.size = x := ⟨_, rfl⟩
          have kg := heap_alloc_new w5 (.cells (nums .u8 (twiceP ys)).toArray 24)
          obtain ⟨W6, hW6⟩ : ∃ W, w5.alloc (.cells (nums .u8 (twiceP ys)).toArray 24) = W := ⟨_, rfl⟩
          rw [hW6, hg] at kg
          have HKG := Lib.hid kg
          have HW6 := Lib.hid (And.intro hW6 hg)
          have HB6 := Lib.hid (show Below W4.heap.size W4 W6 from by rw [← hW6]; exact below_alloc HB5.out _)
          clear hb5 hg kg hW6 hld
          go_wp2_with ((with_reducible show wpList _ _ _ (Oper.mk _ (Op.store _ (.tmp 15) _) _ _ _ _ :: _) _ _); (go_loud (refine wpl_store_new rfl 24 (.tmp 15) (.tmp 41) rfl Z (nums .u8 (twiceP ys)).toArray rfl rfl HIP.out.1 HIP.out.2.1 HIP.out.2.2 ?_); rw [HW6.out.1, HW6.out.2]))
          go_loopw [44] (fun jv wr => ∃ j : Nat, jv = .int .i64 (j : Int) ∧ Hid (j ≤ nt ∧ (∀ t ∈ tx.take j, hitT ys t = false) ∧ Below W6.heap.size W6 wr)) (fun jv _ => nt + 1 - (intOf jv).toNat)
          case atStart => exact ⟨0, rfl, Lib.hid ⟨Nat.zero_le _, by simp, Below.refl _ _⟩⟩
          case round =>
            obtain ⟨j, rfl, H⟩ := hrel
            obtain ⟨hjn, hal, hB⟩ := H.out
            by_cases hjlt : j < nt
            · have hjt : j < tx.length := by rw [HNT.out.1]; exact hjlt
              obtain ⟨ad2, rfl, hcell0⟩ := C_str HT4.out (by rw [List.length_map, HNT.out.1]) (i := j) (by rw [List.length_map]; exact hjt)
              rw [List.getElem_map] at hcell0
              have hok := HTO.out.1 _ (List.getElem_mem hjt)
              obtain ⟨bS, oS, rfl, hblS, hrgS⟩ := C_hash HS4.out (by rw [List.length_map]; omega)
              have hrg := (hrgS j (by rw [List.length_map]; exact hjt)).1
              rw [rdH_eq (by rw [List.length_map]; exact hjt), List.getElem_map] at hrg
              obtain ⟨zs, hzs⟩ : ∃ x, tx[j] = x := ⟨_, rfl⟩
              rw [hzs] at hcell0 hok hrg
              have hB46 := HB6.out.trans (Below.mono hB HB6.out.size)
              have hrg2 := range_below hB46 hblS hrg
              have hkg := (hB.block _ (blk_lt HKG.out)).trans HKG.out
              have hsd := str_dec hok.1 HYS.out.2.1
              have hqe := fun u => eqR (twiceP zs) (twiceP ys) (twiceP_len _) (twiceP_len _) u
              obtain ⟨s2, hs2⟩ : ∃ x, strOfNums zs = x := ⟨_, rfl⟩
              rw [HSS.out, hs2] at hsd
              rw [hs2] at hcell0
              have hld := run_load_st wr (ad2.add j) _ (pw_cell_below hB46 hcell0)
              have lh1 := fun q9 => run_loadVar_mid (P := Tryd.prog) (wr.drewN q9) bS (oS + j * 32) 24 (nums .u8 (twiceP zs)) _ (fun jj v hv => hrg2 jj v hv) Tryd.underlying24 rfl (HI32.out _ (twiceP_len zs))
              have lh2 := fun q9 => run_loadVar_mid (P := Tryd.prog) (wr.drewN q9) g 0 24 (nums .u8 (twiceP ys)) _ (fun jj v hv => by
                have h9 := blk_cell hkg jj
                rw [Nat.zero_add]
                refine Eq.trans h9 ?_
                rw [List.getElem?_toArray]
                exact hv) Tryd.underlying24 rfl (HI32.out _ (twiceP_len ys))
              have hhit : hitT ys zs = (twiceP zs == twiceP ys && !decide (zs = ys)) := by
                unfold hitT
                by_cases e : zs = ys
                · rw [decide_eq_true e, e]; simp
                · rw [decide_eq_false e]; simp [bne, e]
              have HAL := Lib.hid hal
              have HBB2 := Lib.hid hB
              have HJT := Lib.hid (show tx[j]? = some zs from by rw [List.getElem?_eq_getElem hjt, hzs])
              have gj : (j : Int) < (nt : Int) := by omega
              have gj0 : (0 : Int) ≤ (j : Int) := by omega
              have HHT := Lib.hid hhit
              obtain ⟨D, hD⟩ : ∃ x, decide (zs = ys) = x := ⟨_, rfl⟩
              obtain ⟨M, hMM⟩ : ∃ x, (twiceP zs == twiceP ys) = x := ⟨_, rfl⟩
              rw [hD] at hsd hhit
              rw [hMM] at hqe hhit
              have HH2 := Lib.hid hhit
              obtain ⟨PZ, hPZ⟩ : ∃ x, nums .u8 (twiceP zs) = x := ⟨_, rfl⟩
              obtain ⟨PY, hPY⟩ : ∃ x, nums .u8 (twiceP ys) = x := ⟨_, rfl⟩
              rw [hPZ] at lh1 hqe
              rw [hPY] at lh2 hqe
              have HS2 := Lib.hid hs2
              clear H hjn hal hB hjt hcell0 hok hrgS hrg hrg2 hkg hzs hB46 hblS hD hMM hPZ hPY hhit hs2
              cases D with
              | true =>
                go_wp2_with fail
                go_quiet (fail)
                go_wp2
                have hwj : wrap64 ((j : Int) + 1) = ((j + 1 : Nat) : Int) := by rw [IntWalk.wrap64_in _ ⟨by omega, by have := HNT.out.2; omega⟩]; omega
                try rw [hwj]
                have hjt2 : j < tx.length := by rw [HNT.out.1]; exact hjlt
                have hxz : tx[j] = zs := by
                  have h9 := HJT.out
                  rw [List.getElem?_eq_getElem hjt2] at h9
                  injection h9
                go_roundw
                case rel => exact ⟨j + 1, (by first | rfl | rw [hwj]), Lib.hid ⟨hjlt, take_one hjt2 HAL.out (by rw [hxz]; exact HH2.out.trans (by simp)), pw_below_drewN HBB2.out _⟩⟩
                case measure =>
                  simp only [intOf]
                  omega
              | false =>
                cases M with
                | false =>
                  go_wp2_with fail
                  go_quiet (fail)
                  go_wp2
                  have hwj : wrap64 ((j : Int) + 1) = ((j + 1 : Nat) : Int) := by rw [IntWalk.wrap64_in _ ⟨by omega, by have := HNT.out.2; omega⟩]; omega
                  try rw [hwj]
                  have hjt2 : j < tx.length := by rw [HNT.out.1]; exact hjlt
                  have hxz : tx[j] = zs := by
                    have h9 := HJT.out
                    rw [List.getElem?_eq_getElem hjt2] at h9
                    injection h9
                  go_roundw
                  case rel => exact ⟨j + 1, (by first | rfl | rw [hwj]), Lib.hid ⟨hjlt, take_one hjt2 HAL.out (by rw [hxz]; exact HH2.out.trans (by simp)), pw_below_drewN HBB2.out _⟩⟩
                  case measure =>
                    simp only [intOf]
                    omega
                | true =>
                  go_wp2_with fail
                  go_quiet (fail)
                  go_wp2
                  have hjt2 : j < tx.length := by rw [HNT.out.1]; exact hjlt
                  have hxz : tx[j] = zs := by
                    have h9 := HJT.out
                    rw [List.getElem?_eq_getElem hjt2] at h9
                    injection h9
                  have hkc : k < cl.length := by rw [HNC.out.1]; exact hlt
                  have hck : cl[k] = ys := by
                    have h9 := HYS.out.1
                    rw [List.getElem?_eq_getElem hkc] at h9
                    injection h9
                  have hEE : E = some (ys, zs) := by
                    have h7 := pickT_at hjt2 HAL.out (by rw [hxz]; exact HH2.out.trans (by simp))
                    rw [hxz] at h7
                    have h8 := extract_some (texts := tx) (claims := cl) (k := k) (t := zs) hkc HNO.out (by rw [hck]; exact h7)
                    rw [hck, HE.out] at h8
                    exact h8
                  subst hEE
                  go_ret3
                  exact ⟨by rw [← HSS.out, ← HS2.out]; rfl, HB4.out.trans (Below.mono (HB6.out.trans (Below.mono (pw_below_drewN HBB2.out _) HB6.out.size)) HB4.out.size)⟩
            · have gj : ¬ (j : Int) < (nt : Int) := by omega
              have HPN := Lib.hid (show pickT tx ys = none from by
                rw [List.take_of_length_le (by rw [HNT.out.1]; omega)] at hal
                exact pickT_non hal)
              have HBB2 := Lib.hid hB
              clear H hjn hal hB
              go_wp2_with fail
              have hwk : wrap64 ((k : Int) + 1) = ((k + 1 : Nat) : Int) := by rw [IntWalk.wrap64_in _ ⟨by omega, by have := HNC.out.2; omega⟩]; omega
              try rw [hwk]
              go_roundw
              case rel => exact ⟨k + 1, (by first | rfl | rw [hwk]), Lib.hid ⟨hlt, take_one (by rw [HNC.out.1]; exact hlt) HNO.out (by
                have h9 := HYS.out.1
                rw [List.getElem?_eq_getElem (by rw [HNC.out.1]; exact hlt)] at h9
                injection h9 with h9
                rw [h9]
                exact HPN.out), HB6.out.trans (Below.mono HBB2.out HB6.out.size)⟩⟩
              case measure =>
                simp only [intOf]
                omega
        · have gk : ¬ (k : Int) < (nc : Int) := by omega
          have hEE : E = none := by
            have h1 : cl.take k = cl := List.take_of_length_le (by rw [HNC.out.1]; omega)
            rw [h1] at hno
            exact HE.out.symm.trans (extract_none hno)
          subst hEE
          have HBB := Lib.hid hB
          clear H hkn hno hB
          go_wp2_with fail
          go_ret3
          exact ⟨rfl, HB4.out.trans (Below.mono HBB.out HB4.out.size)⟩
end Go.Proofs.YtlmcdkjobdcflaaDoor.Hand


/- What Extract tells is what the document says: the law ClashFinds, walked. -/
namespace Go.Proofs.YtlmcdkjobdcflaaDoor.Hand
open Go Go.RowKit Go.Proofs.YtlmcdkjobdcflaaDoor.Plain Go.Proofs.YtlmcdkjobdcflaaDoor.PAll Go.Proofs.YtlmcdkjobdcflaaDoorW.PrintWords Go.Proofs.YtlmcdkjobdcflaaDoorW.PrintLast Go.Proofs.YtlmcdkjobdcflaaDoorW.PrintMore
set_option linter.unusedVariables false
set_option linter.unusedSimpArgs false
set_option maxRecDepth 100000
attribute [local go_sem ↓] Go.wp_at_zero Go.wp_at_succ
attribute [-go_sem] loadVar storeVar Instr.buildSlice
set_option maxHeartbeats 8000000 in
theorem finds10_calls (A : Option Addr) (n c : Nat) (yss : List (List Int)) (A0 : Option Addr) (m0 c0 : Nat) (text : List Int) (cnt idx : Int) (A1 : Option Addr) (m c1 : Nat) (xs : List (List Int)) (w : World) (h : CaseOk w A n c yss A0 m0 c0 text cnt idx A1 m c1 xs) (hK : KT w) :
    Calls Tryd.prog 15 #[.agg (caseC A n c A0 m0 c0 cnt idx A1 m c1)] w fun e w' => e = .returned (.bool true) ∧ Below w.heap.size w w' := by
  have hk := heap_alloc_new w (.cells (caseC A n c A0 m0 c0 cnt idx A1 m c1) 64)
  have hb := below_alloc (Below.refl w.heap.size w) (.cells (caseC A n c A0 m0 c0 cnt idx A1 m c1) 64)
  obtain ⟨W0, hW0⟩ : ∃ W, w.alloc (.cells (caseC A n c A0 m0 c0 cnt idx A1 m c1) 64) = W := ⟨_, rfl⟩
  rw [hW0] at hk hb
  have HK0 := Lib.hid hk
  have HB0 := Lib.hid hb
  have HO := Lib.hid (h.below hb)
  have HKW := Lib.hid hK
  have HW0 := Lib.hid hW0
  have HI5 := Lib.hid (And.intro Tryd.underlying64 infoCase)
  have HI9 := Lib.hid (And.intro Tryd.underlying41 (zero_of_info infoB9).2)
  have HSM := Lib.hid (small10_calls A n c yss A0 m0 c0 cnt idx A1 m c1 W0 HO.out.hn HO.out.hr)
  clear hk hb h hK hW0
  unfold caseC at HSM HK0 HW0 ⊢
  have HLD := Lib.hid (show ∀ u : World, Below W0.heap.size W0 u → (loadVar 62 ⟨w.heap.size, 0, none⟩).run Tryd.prog u = .ok (.slice A n c) u ∧ (loadVar 33 ⟨w.heap.size, 1, none⟩).run Tryd.prog u = .ok (.slice A0 m0 c0) u ∧ (loadVar 41 ⟨w.heap.size, 2, none⟩).run Tryd.prog u = .ok (.agg #[.int .i64 cnt, .int .i64 idx, .slice A1 m c1]) u from fun u hu => by
    have h9 := case_loads ((hu.block _ (blk_lt HK0.out)).trans HK0.out)
    exact ⟨h9.1, h9.2.1, h9.2.2.1⟩)
  have HAW := Lib.hid (show ∀ u : World, Below w.heap.size w u → Calls Tryd.prog 41 #[] u fun e w' => e = .returned (.bool true) ∧ Below w.heap.size w w' from fun u hu => (awake10_calls u (HKW.out.below hu (Nat.le_refl _))).mono fun e w' h => ⟨h.1, hu.trans (Below.mono h.2 hu.size)⟩)
  cases hs : smallP m0 m yss with
  | false =>
    rw [hs] at HSM
    go_enter Tryd.func15, Tryd.ntmps15
    go_wp2_with ((with_reducible show wpList _ _ _ (Oper.mk _ (Op.load _ (.tmp 1)) _ _ _ _ :: _) _ _); rw [HW0.out]; (go_loud (refine wpList_load_row rfl 64 (.tmp 1) rfl w.heap.size rfl 64 #[.slice A n c, .slice A0 m0 c0, .int .i64 cnt, .int .i64 idx, .slice A1 m c1] (0, 0) _ HK0.out HI5.out.1 rfl HI5.out.2 ?_)))
    refine HSM.out.mono ?_
    rintro e w1 ⟨rfl, hb1⟩
    have HB1 := Lib.hid (HB0.out.trans (Below.mono hb1 HB0.out.size))
    clear hb1
    have HAW2 := Lib.hid (HAW.out w1 HB1.out)
    go_wp2_with fail
    refine HAW2.out.mono ?_
    rintro e w9 ⟨rfl, hb9⟩
    have HB9 := Lib.hid hb9
    clear hb9
    go_wp2_with fail
    go_ret
    exact ⟨rfl, HB9.out⟩
  | true =>
    rw [hs] at HSM
    have HS := Lib.hid hs
    have HSS := Lib.hid (small_of hs)
    clear hs
    go_enter Tryd.func15, Tryd.ntmps15
    go_wp2_with ((with_reducible show wpList _ _ _ (Oper.mk _ (Op.load _ (.tmp 1)) _ _ _ _ :: _) _ _); rw [HW0.out]; (go_loud (refine wpList_load_row rfl 64 (.tmp 1) rfl w.heap.size rfl 64 #[.slice A n c, .slice A0 m0 c0, .int .i64 cnt, .int .i64 idx, .slice A1 m c1] (0, 0) _ HK0.out HI5.out.1 rfl HI5.out.2 ?_)))
    refine HSM.out.mono ?_
    rintro e w1 ⟨rfl, hb1⟩
    have HB1 := Lib.hid (HB0.out.trans (Below.mono hb1 HB0.out.size))
    have HX1 := Lib.hid hb1
    have HO1 := Lib.hid (HO.out.below hb1)
    clear hb1
    have HTO := Lib.hid (show ∀ u : World, Below w1.heap.size w1 u → Below w.heap.size w u from fun u hu => HB1.out.trans (Below.mono hu HB1.out.size))
    have HTR := Lib.hid (show ∀ u u' : World, Below w1.heap.size w1 u → Below u.heap.size u u' → Below w1.heap.size w1 u' from fun u u' hu hu' => hu.trans (Below.mono hu' hu.size))
    have HOR := Lib.hid (show ∀ ys ∈ yss, okR ys from fun ys hys => ⟨HO1.out.hy ys hys, by have := HSS.out.2.2.2 ys hys; omega⟩)
    have HOX := Lib.hid (show okR text from ⟨HO1.out.htb, by have h1 := HSS.out.2.1; have h2 := HO1.out.ht.1; omega⟩)
    have HNN := Lib.hid (show n ≤ 9 ∧ n = yss.length from ⟨by rw [HO1.out.hn]; exact HSS.out.1, HO1.out.hn⟩)
    have HL1 := Lib.hid (show ∀ u : World, Below w1.heap.size w1 u → (loadVar 62 ⟨w.heap.size, 0, none⟩).run Tryd.prog u = .ok (.slice A n c) u ∧ (loadVar 33 ⟨w.heap.size, 1, none⟩).run Tryd.prog u = .ok (.slice A0 m0 c0) u ∧ (loadVar 41 ⟨w.heap.size, 2, none⟩).run Tryd.prog u = .ok (.agg #[.int .i64 cnt, .int .i64 idx, .slice A1 m c1]) u ∧ (convert 33 9 (.slice A0 m0 c0)).run Tryd.prog u = .ok (.string (strOfNums text)) u from fun u hu => by
      have h9 := HLD.out u (HX1.out.trans (Below.mono hu HX1.out.size))
      refine ⟨h9.1, h9.2.1, h9.2.2, ?_⟩
      have hT2 := HO1.out.ht.below hu
      have h8 := Kd.C_string (P := Tryd.prog) (c := c0) Tryd.underlying33 Tryd.underlying5 Tryd.underlying9 hT2.2.2
      rw [← hT2.1] at h8
      exact h8)
    have HST := Lib.hid (show ∀ u : World, Below w1.heap.size w1 u → Calls Tryd.prog 45 #[.slice A n c] u fun e w' => ∃ A2 c2, e = .returned (.slice A2 n c2) ∧ Kd.C Kd.string w' A2 n (yss.map strOfNums) ∧ Below u.heap.size u w' from fun u hu => (strs10_calls A n c yss u HO1.out.hn (Kd.C_below HO1.out.hr hu) (by have := HNN.out; omega) (fun ys hys => ⟨(HOR.out ys hys).1, by have := (HOR.out ys hys).2; omega⟩)).mono fun e w' h => by
      obtain ⟨v, rfl, hv, hb⟩ := h
      obtain ⟨A2, c2, rfl⟩ := Kd.R_slice hv
      have hl : (yss.map strOfNums).length = n := by rw [List.length_map, HO1.out.hn]
      have h9 := Kd.R_reads' hv
      rw [hl] at h9 ⊢
      exact ⟨A2, c2, rfl, h9.2.2, hb⟩)
    have HRF := Lib.hid (show ∀ u : World, Below w1.heap.size w1 u → Calls Tryd.prog 36 #[.agg #[.int .i64 cnt, .int .i64 idx, .slice A1 m c1]] u fun e w' => ∃ A2 c2, e = .returned (.agg #[.int .i64 cnt, .int .i64 idx, .slice A2 m c2]) ∧ (m ≤ c2 ∧ Kd.C kH w' A2 m xs) ∧ Below u.heap.size u w' from fun u hu => (lref9_calls cnt idx A1 m c1 xs u HO1.out.hm (Kd.C_below HO1.out.hr1 hu) HO1.out.hc1 (by have := HSS.out.2.2.1; omega) HO1.out.hH).mono fun e w' h => by
      obtain ⟨A2, c2, rfl, h1, h2, h3⟩ := h
      exact ⟨A2, c2, rfl, ⟨h1, h2⟩, h3⟩)
    have HEX := Lib.hid (HO1.out.extract HS.out (HKW.out.below HB1.out (Nat.le_refl _)))
    have HRE := Lib.hid (show ∀ (u : World) (A2 A3 : Option Addr) (c2 c3 : Nat), Kd.C Kd.string u A2 n (yss.map strOfNums) → m ≤ c3 ∧ Kd.C kH u A3 m xs → Calls Tryd.prog 49 #[.slice A2 n c2, .string (strOfNums text), .agg #[.int .i64 cnt, .int .i64 idx, .slice A3 m c3]] u fun e w' => e = .returned (.tuple #[.string (strOfNums ((extractP (textsP yss) (claimP cnt idx xs text)).getD ([], [])).1), .string (strOfNums ((extractP (textsP yss) (claimP cnt idx xs text)).getD ([], [])).2), .bool (extractP (textsP yss) (claimP cnt idx xs text)).isSome]) ∧ Below u.heap.size u w' from fun u A2 A3 c2 c3 h2 h3 => rextract10_calls A2 n c2 yss text cnt idx A3 m c3 xs u HO1.out.hn h2 (by have := HNN.out; omega) HOR.out HOX.out HO1.out.hm h3.2 h3.1 (by have := HSS.out.2.2.1; omega) HO1.out.hH HO1.out.h0 HO1.out.h1)
    obtain ⟨E, hE⟩ : ∃ x, extractP (textsP yss) (claimP cnt idx xs text) = x := ⟨_, rfl⟩
    rw [hE] at HEX HRE
    obtain ⟨a, ha⟩ : ∃ x, (E.getD ([], [])).1 = x := ⟨_, rfl⟩
    obtain ⟨b, hb⟩ : ∃ x, (E.getD ([], [])).2 = x := ⟨_, rfl⟩
    obtain ⟨K, hKK⟩ : ∃ x, E.isSome = x := ⟨_, rfl⟩
    rw [ha, hb, hKK] at HEX HRE
    obtain ⟨tz, htz⟩ : ∃ x, strOfNums text = x := ⟨_, rfl⟩
    rw [htz] at HRE HL1
    clear hE ha hb hKK htz
    obtain ⟨l0, l1, l2, _⟩ := HL1.out w1 (Below.refl _ _)
    go_wp2_with fail
    refine HEX.out.mono ?_
    rintro e w2 ⟨⟨a1, b1, d1, a2, b2, d2, rfl, hT1, hT2⟩, hb2⟩
    have HB2 := Lib.hid hb2
    have HT := Lib.hid (And.intro hT1 hT2)
    clear hT1 hT2 hb2 l0 l1 l2
    go_wp2_with fail
    go_cut [6, 7, 8] from 24 to 37 (fun x6 x7 x8 wx => x6 = .string (strOfNums a) ∧ x7 = .string (strOfNums b) ∧ x8 = .bool K ∧ Hid (Below w2.heap.size w2 wx))
    case first =>
      have HBz := Lib.hid (below_drew (Below.refl w2.heap.size w2))
      have HBD := Lib.hid (HTR.out _ _ HB2.out HBz.out)
      have HTS := Lib.hid (show ∀ u u' : World, Below w2.heap.size w2 u → Below u.heap.size u u' → Below w2.heap.size w2 u' from fun u u' hu hu' => hu.trans (Below.mono hu' hu.size))
      have hHeld := HL1.out _ HBD.out
      refine wp_region_held (S := fun u => (loadVar 62 ⟨w.heap.size, 0, none⟩).run Tryd.prog u = .ok (.slice A n c) u ∧ (loadVar 33 ⟨w.heap.size, 1, none⟩).run Tryd.prog u = .ok (.slice A0 m0 c0) u ∧ (loadVar 41 ⟨w.heap.size, 2, none⟩).run Tryd.prog u = .ok (.agg #[.int .i64 cnt, .int .i64 idx, .slice A1 m c1]) u ∧ (convert 33 9 (.slice A0 m0 c0)).run Tryd.prog u = .ok (.string tz) u) (by kernel_rfl) ?_
      change wpAnyH _ _ _ _ _ _ _ _ (World.drew _)
      refine wpAnyH_take (i := 0) (oi := ({ dst := some 25, op := Op.fieldAddr 64 (Operand.tmp 1) 0, type := 0, pos := "law.go:78", after := #[], guard := none } : Oper)) (v := .pointer (some ⟨w.heap.size, 0, none⟩)) rfl (by kernel_rfl) (by kernel_rfl) (by kernel_rfl) (fun _ _ _ h => h) (Or.inl ⟨by rfl, fun w hSw => by go_simp⟩) hHeld ?_
      simp only [Act.put, List.setIfInBounds_toArray, List.set_cons_zero, List.set_cons_succ]
      refine wpAnyH_take (i := 1) (oi := ({ dst := some 26, op := Op.load 62 (Operand.tmp 25), type := 62, pos := "law.go:78", after := #[{ on := 0, ground := Ground.data }], guard := none } : Oper)) (v := .slice A n c) rfl (by kernel_rfl) (by kernel_rfl) (by kernel_rfl) (fun _ _ _ h => h) (Or.inl ⟨by rfl, fun w hSw => by obtain ⟨z0, z1, z2, z3⟩ := hSw; go_simp⟩) hHeld ?_
      simp only [Act.put, List.setIfInBounds_toArray, List.set_cons_zero, List.set_cons_succ]
      refine wpAnyH_take (i := 3) (oi := ({ dst := some 28, op := Op.fieldAddr 64 (Operand.tmp 1) 1, type := 0, pos := "law.go:78", after := #[], guard := none } : Oper)) (v := .pointer (some ⟨w.heap.size, 1, none⟩)) rfl (by kernel_rfl) (by kernel_rfl) (by kernel_rfl) (fun _ _ _ h => h) (Or.inl ⟨by rfl, fun w hSw => by go_simp⟩) hHeld ?_
      simp only [Act.put, List.setIfInBounds_toArray, List.set_cons_zero, List.set_cons_succ]
      refine wpAnyH_take (i := 4) (oi := ({ dst := some 29, op := Op.load 33 (Operand.tmp 28), type := 33, pos := "law.go:78", after := #[{ on := 3, ground := Ground.data }], guard := none } : Oper)) (v := .slice A0 m0 c0) rfl (by kernel_rfl) (by kernel_rfl) (by kernel_rfl) (fun _ _ _ h => h) (Or.inl ⟨by rfl, fun w hSw => by obtain ⟨z0, z1, z2, z3⟩ := hSw; go_simp⟩) hHeld ?_
      simp only [Act.put, List.setIfInBounds_toArray, List.set_cons_zero, List.set_cons_succ]
      refine wpAnyH_take (i := 5) (oi := ({ dst := some 30, op := Op.convert 33 9 (Operand.tmp 29), type := 9, pos := "law.go:78", after := #[{ on := 4, ground := Ground.data }], guard := none } : Oper)) (v := .string tz) rfl (by kernel_rfl) (by kernel_rfl) (by kernel_rfl) (fun _ _ _ h => h) (Or.inl ⟨by rfl, fun w hSw => by obtain ⟨z0, z1, z2, z3⟩ := hSw; go_simp⟩) hHeld ?_
      simp only [Act.put, List.setIfInBounds_toArray, List.set_cons_zero, List.set_cons_succ]
      refine wpAnyH_take (i := 6) (oi := ({ dst := some 31, op := Op.fieldAddr 64 (Operand.tmp 1) 2, type := 0, pos := "law.go:78", after := #[], guard := none } : Oper)) (v := .pointer (some ⟨w.heap.size, 2, none⟩)) rfl (by kernel_rfl) (by kernel_rfl) (by kernel_rfl) (fun _ _ _ h => h) (Or.inl ⟨by rfl, fun w hSw => by go_simp⟩) hHeld ?_
      simp only [Act.put, List.setIfInBounds_toArray, List.set_cons_zero, List.set_cons_succ]
      refine wpAnyH_take (i := 7) (oi := ({ dst := some 32, op := Op.load 41 (Operand.tmp 31), type := 41, pos := "law.go:78", after := #[{ on := 6, ground := Ground.data }], guard := none } : Oper)) (v := .agg #[.int .i64 cnt, .int .i64 idx, .slice A1 m c1]) rfl (by kernel_rfl) (by kernel_rfl) (by kernel_rfl) (fun _ _ _ h => h) (Or.inl ⟨by rfl, fun w hSw => by obtain ⟨z0, z1, z2, z3⟩ := hSw; go_simp⟩) hHeld ?_
      simp only [Act.put, List.setIfInBounds_toArray, List.set_cons_zero, List.set_cons_succ]
      refine wpAnyH_ready (rs := [2]) (by kernel_rfl) (by simp) ?_
      refine AllReadyH.cons (o := ({ dst := some 27, op := Op.call { callee := Callee.value (Operand.func 45), args := #[Operand.tmp 26], argTypes := #[62] }, type := 68, pos := "law.go:78", after := #[{ on := 1, ground := Ground.data }], guard := none } : Oper)) rfl (fun K hK => ?_) AllReadyH.nil
      go_simp
      (with_reducible refine (HST.out _ HBD.out).mono ?_)
      rintro e w3 ⟨A3, c3, rfl, hC3, hb3⟩
      have HB3 := Lib.hid (HTR.out _ _ HBD.out hb3)
      have HV3 := Lib.hid (HTS.out _ _ HBz.out hb3)
      have HC3 := Lib.hid hC3
      clear hC3 hb3
      go_wp2_with fail
      refine hK.out _ _ (HL1.out _ HB3.out) (fun hHeld => ?_)
      clear hK K
      try simp only [Act.put, List.setIfInBounds_toArray, List.set_cons_zero, List.set_cons_succ]
      refine wpAnyH_ready (rs := [8]) (by kernel_rfl) (by simp) ?_
      refine AllReadyH.cons (o := ({ dst := some 33, op := Op.call { callee := Callee.value (Operand.func 36), args := #[Operand.tmp 32], argTypes := #[41] }, type := 46, pos := "law.go:78", after := #[{ on := 7, ground := Ground.data }, { on := 2, ground := Ground.chain }], guard := none } : Oper)) rfl (fun K hK => ?_) AllReadyH.nil
      go_simp
      (with_reducible refine (HRF.out _ HB3.out).mono ?_)
      rintro e w7 ⟨A7, c7, rfl, hC7, hb7⟩
      have HB7 := Lib.hid (HTR.out _ _ HB3.out hb7)
      have HV7 := Lib.hid (HTS.out _ _ HV3.out hb7)
      have HC7 := Lib.hid (And.intro (Kd.C_below HC3.out hb7) hC7)
      clear hC7 hb7
      go_wp2_with fail
      refine hK.out _ _ (HL1.out _ HB7.out) (fun hHeld => ?_)
      clear hK K
      try simp only [Act.put, List.setIfInBounds_toArray, List.set_cons_zero, List.set_cons_succ]
      refine wpAnyH_ready (rs := [9]) (by kernel_rfl) (by simp) ?_
      refine AllReadyH.cons (o := ({ dst := some 34, op := Op.call { callee := Callee.value (Operand.func 49), args := #[Operand.tmp 27, Operand.tmp 30, Operand.tmp 33], argTypes := #[68, 9, 46] }, type := 75, pos := "law.go:78", after := #[{ on := 2, ground := Ground.data }, { on := 5, ground := Ground.data }, { on := 8, ground := Ground.data }, { on := 8, ground := Ground.chain }], guard := none } : Oper)) rfl (fun K hK => ?_) AllReadyH.nil
      go_simp
      (with_reducible refine (HRE.out _ A3 A7 c3 c7 HC7.out.1 HC7.out.2).mono ?_)
      rintro e w8 ⟨rfl, hb8⟩
      have HB8 := Lib.hid (HTR.out _ _ HB7.out hb8)
      have HV8 := Lib.hid (HTS.out _ _ HV7.out hb8)
      clear hb8
      go_wp2_with fail
      refine hK.out _ _ (HL1.out _ HB8.out) (fun hHeld => ?_)
      clear hK K
      try simp only [Act.put, List.setIfInBounds_toArray, List.set_cons_zero, List.set_cons_succ]
      refine wpAnyH_take (i := 10) (oi := ({ dst := some 24, op := Op.move (Operand.tmp 34), type := 75, pos := "law.go:78", after := #[{ on := 9, ground := Ground.data }], guard := none } : Oper)) (v := .tuple #[.string (strOfNums a), .string (strOfNums b), .bool K]) rfl (by kernel_rfl) (by kernel_rfl) (by kernel_rfl) (fun _ _ _ h => h) (Or.inl ⟨by rfl, fun w hSw => by go_simp⟩) hHeld ?_
      simp only [Act.put, List.setIfInBounds_toArray, List.set_cons_zero, List.set_cons_succ]
      refine wpAnyH_take (i := 11) (oi := ({ dst := some 35, op := Op.extract (Operand.tmp 24) 0, type := 9, pos := "law.go:78", after := #[{ on := 10, ground := Ground.data }], guard := none } : Oper)) (v := .string (strOfNums a)) rfl (by kernel_rfl) (by kernel_rfl) (by kernel_rfl) (fun _ _ _ h => h) (Or.inl ⟨by rfl, fun w hSw => by go_simp⟩) hHeld ?_
      simp only [Act.put, List.setIfInBounds_toArray, List.set_cons_zero, List.set_cons_succ]
      refine wpAnyH_take (i := 12) (oi := ({ dst := some 36, op := Op.extract (Operand.tmp 24) 1, type := 9, pos := "law.go:78", after := #[{ on := 10, ground := Ground.data }, { on := 14, ground := Ground.gcOnly Departure.lateStores }], guard := none } : Oper)) (v := .string (strOfNums b)) rfl (by kernel_rfl) (by kernel_rfl) (by kernel_rfl) (fun _ _ _ h => h) (Or.inl ⟨by rfl, fun w hSw => by go_simp⟩) hHeld ?_
      simp only [Act.put, List.setIfInBounds_toArray, List.set_cons_zero, List.set_cons_succ]
      refine wpAnyH_take (i := 13) (oi := ({ dst := some 37, op := Op.extract (Operand.tmp 24) 2, type := 4, pos := "law.go:78", after := #[{ on := 10, ground := Ground.data }, { on := 15, ground := Ground.gcOnly Departure.lateStores }], guard := none } : Oper)) (v := .bool K) rfl (by kernel_rfl) (by kernel_rfl) (by kernel_rfl) (fun _ _ _ h => h) (Or.inl ⟨by rfl, fun w hSw => by go_simp⟩) hHeld ?_
      simp only [Act.put, List.setIfInBounds_toArray, List.set_cons_zero, List.set_cons_succ]
      refine wpAnyH_take (i := 14) (oi := ({ dst := some 6, op := Op.assign (Operand.tmp 35), type := 9, pos := "law.go:78", after := #[{ on := 11, ground := Ground.data }, { on := 9, ground := Ground.chain }, { on := 0, ground := Ground.phase }, { on := 1, ground := Ground.phase }, { on := 2, ground := Ground.phase }, { on := 3, ground := Ground.phase }, { on := 4, ground := Ground.phase }, { on := 5, ground := Ground.phase }, { on := 6, ground := Ground.phase }, { on := 7, ground := Ground.phase }, { on := 8, ground := Ground.phase }, { on := 9, ground := Ground.phase }, { on := 10, ground := Ground.phase }, { on := 11, ground := Ground.phase }, { on := 12, ground := Ground.textOnly Departure.lateStores }, { on := 13, ground := Ground.textOnly Departure.lateStores }], guard := none } : Oper)) (v := .string (strOfNums a)) rfl (by kernel_rfl) (by kernel_rfl) (by kernel_rfl) (fun _ _ _ h => h) (Or.inl ⟨by rfl, fun w hSw => by go_simp⟩) hHeld ?_
      simp only [Act.put, List.setIfInBounds_toArray, List.set_cons_zero, List.set_cons_succ]
      refine wpAnyH_take (i := 15) (oi := ({ dst := some 7, op := Op.assign (Operand.tmp 36), type := 9, pos := "law.go:78", after := #[{ on := 12, ground := Ground.data }, { on := 14, ground := Ground.chain }, { on := 0, ground := Ground.phase }, { on := 1, ground := Ground.phase }, { on := 2, ground := Ground.phase }, { on := 3, ground := Ground.phase }, { on := 4, ground := Ground.phase }, { on := 5, ground := Ground.phase }, { on := 6, ground := Ground.phase }, { on := 7, ground := Ground.phase }, { on := 8, ground := Ground.phase }, { on := 9, ground := Ground.phase }, { on := 10, ground := Ground.phase }, { on := 11, ground := Ground.phase }, { on := 12, ground := Ground.phase }, { on := 13, ground := Ground.textOnly Departure.lateStores }, { on := 14, ground := Ground.phase }], guard := none } : Oper)) (v := .string (strOfNums b)) rfl (by kernel_rfl) (by kernel_rfl) (by kernel_rfl) (fun _ _ _ h => h) (Or.inl ⟨by rfl, fun w hSw => by go_simp⟩) hHeld ?_
      simp only [Act.put, List.setIfInBounds_toArray, List.set_cons_zero, List.set_cons_succ]
      refine wpAnyH_take (i := 16) (oi := ({ dst := some 8, op := Op.assign (Operand.tmp 37), type := 4, pos := "law.go:78", after := #[{ on := 13, ground := Ground.data }, { on := 15, ground := Ground.chain }, { on := 0, ground := Ground.phase }, { on := 1, ground := Ground.phase }, { on := 2, ground := Ground.phase }, { on := 3, ground := Ground.phase }, { on := 4, ground := Ground.phase }, { on := 5, ground := Ground.phase }, { on := 6, ground := Ground.phase }, { on := 7, ground := Ground.phase }, { on := 8, ground := Ground.phase }, { on := 9, ground := Ground.phase }, { on := 10, ground := Ground.phase }, { on := 11, ground := Ground.phase }, { on := 12, ground := Ground.phase }, { on := 13, ground := Ground.phase }, { on := 14, ground := Ground.phase }, { on := 15, ground := Ground.phase }], guard := none } : Oper)) (v := .bool K) rfl (by kernel_rfl) (by kernel_rfl) (by kernel_rfl) (fun _ _ _ h => h) (Or.inl ⟨by rfl, fun w hSw => by go_simp⟩) hHeld ?_
      simp only [Act.put, List.setIfInBounds_toArray, List.set_cons_zero, List.set_cons_succ]
      refine wpAnyH_done (by kernel_rfl) ?_ _
      clear hHeld
      go_wp2_with fail
      go_meet
      exact ⟨rfl, rfl, rfl, Lib.hid HV8.out⟩
    case rest =>
      obtain ⟨rfl, rfl, rfl, HG⟩ := hcut
      generalize wc = V4 at *
      have HBv := Lib.hid (HTO.out _ (HTR.out _ _ HB2.out HG.out))
      have g1 : (convert 33 9 (.slice a1 b1 d1)).run Tryd.prog V4 = .ok (.string (strOfNums a)) V4 := by
        have hT := HT.out.1.below HG.out
        have h9 := Kd.C_string (P := Tryd.prog) (c := d1) Tryd.underlying33 Tryd.underlying5 Tryd.underlying9 hT.2.2
        rw [← hT.1] at h9
        exact h9
      have g2 : (convert 33 9 (.slice a2 b2 d2)).run Tryd.prog V4 = .ok (.string (strOfNums b)) V4 := by
        have hT := HT.out.2.below HG.out
        have h9 := Kd.C_string (P := Tryd.prog) (c := d2) Tryd.underlying33 Tryd.underlying5 Tryd.underlying9 hT.2.2
        rw [← hT.1] at h9
        exact h9
      obtain ⟨s, hs1⟩ : ∃ s, strOfNums a = s := ⟨_, rfl⟩
      obtain ⟨s2, hs2⟩ : ∃ s, strOfNums b = s := ⟨_, rfl⟩
      rw [hs1] at g1 ⊢
      rw [hs2] at g2 ⊢
      have e1 : (s.toList == s.toList) = true := (str_beq _ _).2 rfl
      have e2 : (s2.toList == s2.toList) = true := (str_beq _ _).2 rfl
      have e3 : (K == K) = true := by cases K <;> rfl
      have HAW2 := Lib.hid (HAW.out V4 HBv.out)
      clear hs1 hs2
      go_wp2_with fail
      refine HAW2.out.mono ?_
      rintro e w9 ⟨rfl, hb9⟩
      have HB9 := Lib.hid hb9
      clear hb9
      go_wp2_with fail
      go_ret
      exact ⟨rfl, HB9.out⟩
end Go.Proofs.YtlmcdkjobdcflaaDoor.Hand

