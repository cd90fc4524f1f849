/- The law's lists: the document's form of a list of hashes, and a few small ones: walked. -/
import Derived.Test.YtlmcdkjobdcflaaDoorProg
import Derived.Below
import Derived.Deep.Draws
import Derived.Deep.AppendLies
import Derived.Maps.AppendAt
import Derived.OwnWalk
import Derived.Laws.BytesArg
import Derived.Laws.MakeOwn
import Derived.Laws.OwnMore
import Derived.Deep.OwnRows
import Derived.Tactics
import Derived.Lib.ConvBytes
import Derived.Laws.Slices
import Derived.WalkKit
import Derived.KernelRfl
import Derived.RowKit3
import Derived.Deep.LoopGhost
import Derived.Deep.QuietTactic
import Derived.BigQuiet
import Derived.WideLaws
import Derived.Deep.DeepCutAuto
import Derived.Deep.CutBlock
import Derived.Deep.RegionHeld3
import Derived.Laws.Rows
import Derived.Lib.AppendStr
import Derived.ArgAppend
import Derived.Laws.IdiomCopy
import Derived.OrdersHeld
import Derived.Laws.BitsLemmas
import Derived.RowKit
import Derived.StillTailTactics
import Derived.Test.YtlmcdkjobdcflaaDoorWWords
import Derived.Test.YtlmcdkjobdcflaaDoorWLast
import Derived.Test.YtlmcdkjobdcflaaDoorWMore
import Derived.Lib.Hide
import Derived.Outline
import Derived.Deep.MidRow
import Derived.Deep.WholeRow
import Derived.Test.YtlmcdkjobdcflaaDoorRefRoot
namespace Go.Proofs.YtlmcdkjobdcflaaDoor.Hand
open Go Go.RowKit Go.Proofs.YtlmcdkjobdcflaaDoor.Plain Go.Proofs.YtlmcdkjobdcflaaDoor.PAll Go.Proofs.YtlmcdkjobdcflaaDoorW.PrintWords Go.Proofs.YtlmcdkjobdcflaaDoorW.PrintLast Go.Proofs.YtlmcdkjobdcflaaDoorW.PrintMore
set_option linter.unusedVariables false
set_option linter.unusedSimpArgs false
set_option maxRecDepth 100000
theorem run_load_u8 (w : World) (a : Addr) (v : Value) (h : w.cell? a = some v) : (loadVar 5 a).run Tryd.prog w = .ok v w := by
  go_simp
attribute [-go_sem] loadVar storeVar Instr.buildSlice
theorem info32c : (Tryd.prog.info? 24).map (fun i => (i.zero, i.size, i.bytes)) = some (some (.agg (nums .u8 (List.replicate 32 0)).toArray), 32, 32) := by kernel_rfl
theorem run_hash1r (p : List Int) (h : p.length = 32) (W : World) : (Instr.buildSlice 28 1 #[(0, .agg (nums .u8 p).toArray)]).run Tryd.prog W = .ok (.slice (some ⟨W.heap.size, 0, none⟩) 1 1) (W.alloc (.cells (nums .u8 p).toArray 24)) := by
  obtain ⟨x0, x1, x2, x3, x4, x5, x6, x7, x8, x9, x10, x11, x12, x13, x14, x15, x16, x17, x18, x19, x20, x21, x22, x23, x24, x25, x26, x27, x28, x29, x30, x31, rfl⟩ := list32 p h
  kernel_rfl
theorem take_hash {xs : List (List Int)} {k : Nat} (h : k < xs.length) : xs.take (k + 1) = xs.take k ++ [rdH xs k] := by
  rw [List.take_succ_eq_append_getElem h, rdH_eq h]
set_option maxHeartbeats 2000000 in
theorem refs_calls (A : Option Addr) (n c : Nat) (xs : List (List Int)) (w : World) (hn : n = xs.length) (hr : Kd.C kH w A n xs) (hc : n ≤ c) (hl : n ≤ 100000) (hH : Hs xs) :
    Calls Tryd.prog 22 #[.slice A n c] w fun e w' => ∃ v, e = .returned v ∧ Kd.R kH 24 w' w.heap.size (fun _ => True) v xs ∧ Below w.heap.size w w' := by
  have HZ := (zero_of_info infoHash).1
  obtain ⟨Z, hZ⟩ : ∃ C, (nums .u8 (List.replicate 32 0)).toArray = C := ⟨_, rfl⟩
  rw [hZ] at HZ
  have hZ32 : Z.size = 32 := by rw [← hZ]; rfl
  have HR := Lib.hid hr
  have HN := Lib.hid (And.intro hn (And.intro hH hZ32))
  have HU := Lib.hid Tryd.underlying25
  clear hr hn hH hZ hZ32
  go_enter Tryd.func22, Tryd.ntmps22
  go_wp2_with fail
  go_loopw [3, 8] (fun v i wr => ∃ k : Nat, k ≤ n ∧ i = .int .i64 (k : Int) ∧ Hid (Kd.R kH 24 wr w.heap.size (fun _ => True) v (xs.take k) ∧ Below w.heap.size w wr)) (fun _ i _ => (n + 1 - (intOf i).toNat))
  case atStart => exact ⟨0, Nat.zero_le _, rfl, Lib.hid ⟨Kd.R_nil _ _ _ _ _, Below.refl _ _⟩⟩
  case round =>
    obtain ⟨k, hk, rfl, H⟩ := hrel
    obtain ⟨hR, hB⟩ := H.out
    by_cases hlt : k < n
    · have hklt : k < xs.length := by rw [← HN.out.1]; exact hlt
      obtain ⟨b, o, rfl, hbl, hrg⟩ := C_hash (by rw [← HN.out.1]; exact HR.out) (by omega)
      obtain ⟨hr0, hs0⟩ := hrg k hklt
      have hr1 := range_below hB hbl hr0
      have hg : decide ((k : Int) < (n : Int)) = true := decide_eq_true (by omega)
      have hg2 : (k : Int) < (n : Int) := by omega
      have hbs := fun u => run_hash1r (rdH xs k) hs0 u
      have hPl : (nums .u8 (rdH xs k)).length = 32 := by rw [nums_len]; exact hs0
      have hone := nums_one .u8 (rdH xs k)
      have hcm := fun (u : World) => kH_M (w := u) (base := w.heap.size) (ok := fun _ => False) hs0
      obtain ⟨P, hP⟩ : ∃ P, nums .u8 (rdH xs k) = P := ⟨_, rfl⟩
      rw [hP] at hbs hPl hone hcm hr1
      have HF := Lib.hid (show (Tryd.prog.info? 25).map (·.size) = some P.length ∧ (Tryd.prog.info? 25).map (·.size) = some P.toArray.size ∧ Z.size = P.toArray.size ∧ P.toArray.all (·.oneCell') = true from
        ⟨by rw [hPl]; exact (zero_of_info infoHash).2, by rw [List.size_toArray, hPl]; exact (zero_of_info infoHash).2, HN.out.2.2.trans (by rw [List.size_toArray, hPl]), all_oneCell_toArray hone⟩)
      have HR1 := Lib.hid hr1
      have HRR := Lib.hid (Kd.R_alloc hR (.cells P.toArray 25))
      have HBB := Lib.hid (below_alloc hB (.cells P.toArray 25))
      have HNK := Lib.hid (heap_alloc_new wr (.cells P.toArray 25))
      have HCM := Lib.hid hcm
      have HTL := Lib.hid (show ((xs.take k).length + 1) * 32 ≤ 140737488355328 by rw [List.length_take]; omega)
      have HTK := Lib.hid (take_hash hklt)
      clear hR hB H hrg hr0 hs0 hr1 hPl hone hcm hP hklt
      go_wp2_with (first
        | ((with_reducible show wpList _ _ _ (Oper.mk _ (Op.load _ (.tmp 10)) _ _ _ _ :: _) _ _); (go_loud (refine wpList_load_mid rfl 25 (.tmp 10) rfl b (o + k * 32) rfl P _ HR1.out HU.out rfl HF.out.1 ?_)))
        | ((with_reducible show wpList _ _ _ (Oper.mk _ (Op.load _ (.tmp 5)) _ _ _ _ :: _) _ _); (go_loud (refine wpList_load_row rfl 25 (.tmp 5) rfl wr.heap.size rfl 25 P.toArray (0, 0) _ HNK.out HU.out rfl HF.out.2.1 ?_)))
        | ((with_reducible show wpList _ _ _ (Oper.mk _ (Op.store _ _ _) _ _ _ _ :: _) _ _); (go_loud (refine wpl_store_new rfl 25 (.tmp 5) (.tmp 11) rfl Z P.toArray rfl rfl HF.out.2.1 HF.out.2.2.1 HF.out.2.2.2 ?_)))
        | ((with_reducible refine gate_builtin (b := .append) (xs := #[.tmp 12, .tmp 14]) rfl ?_); at_builtin; refine Kd.R_append kH (w0 := w) w.heap.size rfl (.tmp 12) (.tmp 14) 28 24 (.agg (nums .u8 (List.replicate 32 0)).toArray) 32 rfl Tryd.underlying28 info32c rfl (by decide) (by decide) _ (xs.take k) (rdH xs k) P (fun _ => True) (fun _ => False) rfl (by first | (go_simp; done) | (go_simp; rfl)) (HCM.out _) (fun _ h => h.elim) (fun _ _ => trivial) HRR.out HBB.out HBB.out.size HTL.out ?_; intro v4 w4 ho hb hg hat; have HR4 := Lib.hid ho; have HB4 := Lib.hid hb; clear ho hb hg hat))
      go_roundw
      case rel => exact ⟨k + 1, by omega, by go_num, Lib.hid ⟨by rw [HTK.out]; exact HR4.out, HB4.out⟩⟩
      case measure => simp only [intOf]; omega
    · have hg : decide ((k : Int) < (n : Int)) = false := decide_eq_false (by omega)
      have hx : xs.take k = xs := List.take_of_length_le (by rw [← HN.out.1]; omega)
      rw [hx] at hR
      have HRR := Lib.hid hR
      have HB := Lib.hid hB
      clear hR hB H hx
      go_wp2_with fail
      go_ret
      exact ⟨_, rfl, HRR.out, HB.out⟩
/-- A small hash. -/
def smallH (x : Int) : List Int := x :: List.replicate 31 0
theorem smallH_hash {x : Int} (h : 0 ≤ x ∧ x < 256) : (smallH x).length = 32 ∧ ∀ y ∈ smallH x, 0 ≤ y ∧ y < 256 := by
  refine ⟨by simp [smallH], fun y hy => ?_⟩
  rcases List.mem_cons.1 hy with rfl | hy
  · exact h
  · have := List.eq_of_mem_replicate hy
    omega
theorem built_small (x : Int) : Tryd.prog.built 25 [(0, .int .u8 x)] = some (nums .u8 (smallH x)).toArray := by kernel_rfl
def fewP (l : List Int) : List (List Int) := (l.take 20).map smallH
theorem fewP_Hs {l : List Int} (h : ∀ x ∈ l, 0 ≤ x ∧ x < 256) : Hs (fewP l) := by
  intro p hp
  simp only [fewP, List.mem_map] at hp
  obtain ⟨x, hx, rfl⟩ := hp
  exact smallH_hash (h x (List.mem_of_mem_take hx))
theorem fewP_take {l : List Int} {k : Nat} (h : k < l.length) (h2 : k < 20) : (fewP l).take (k + 1) = (fewP l).take k ++ [smallH (rd l (k : Int))] := by
  have hl : k < (fewP l).length := by simp [fewP]; omega
  rw [List.take_succ_eq_append_getElem hl]
  simp [fewP, rd, h]
set_option maxHeartbeats 2000000 in
theorem few_calls (A : Option Addr) (n c : Nat) (l : List Int) (w : World) (hn : n = l.length) (hr : Kd.C (Kd.int .u8) w A n l) (hc : n ≤ c) (hb : ∀ x ∈ l, 0 ≤ x ∧ x < 256) :
    Calls Tryd.prog 25 #[.slice A n c] w fun e w' => ∃ v, e = .returned v ∧ Kd.R kH 25 w' w.heap.size (fun _ => True) v (fewP l) ∧ Below w.heap.size w w' := by
  have hm := Kd.C_max hr
  have HR := Lib.hid hr
  have HN := Lib.hid (And.intro hn hb)
  clear hr hn hb
  go_enter Tryd.func25, Tryd.ntmps25
  go_wp2_with fail
  go_loopw [3, 4] (fun v i wr => ∃ k : Nat, k ≤ n ∧ k ≤ 20 ∧ i = .int .i64 (k : Int) ∧ Hid (Kd.R kH 25 wr w.heap.size (fun _ => True) v ((fewP l).take k) ∧ Below w.heap.size w wr)) (fun _ i _ => (20 + 1 - (intOf i).toNat))
  case atStart => exact ⟨0, Nat.zero_le _, by omega, rfl, Lib.hid ⟨Kd.R_nil _ _ _ _ _, Below.refl _ _⟩⟩
  case round =>
    obtain ⟨k, hk, hk2, rfl, H⟩ := hrel
    obtain ⟨hR, hB⟩ := H.out
    by_cases hlt : k < n ∧ k < 20
    · obtain ⟨hlt, hlt2⟩ := hlt
      have hklt : k < l.length := by rw [← HN.out.1]; exact hlt
      obtain ⟨ad, rfl, hcell⟩ := Kd.at_int HR.out (k : Int) (by omega) (by omega)
      have hcell2 : wr.cell? (ad.add k) = some (.int .u8 (rd l (k : Int))) := by
        have h := hcell
        rw [Int.toNat_natCast] at h
        exact (hB.cell (p := ad.add k) (block_lt_of_cell h)).trans h
      have hcell3 : wr.cell? (ad.add (k * 1)) = some (.int .u8 (rd l (k : Int))) := by rw [Nat.mul_one]; exact hcell2
      have hx : 0 ≤ rd l (k : Int) ∧ rd l (k : Int) < 256 := HN.out.2 _ (by simp [rd, hklt])
      obtain ⟨hs0, _⟩ := smallH_hash hx
      have hbu := built_small (rd l (k : Int))
      have hg : decide ((k : Int) < (n : Int)) = true := decide_eq_true (by omega)
      have hg2 : decide ((k : Int) < 20) = true := decide_eq_true (by omega)
      have hg3 : (k : Int) < (n : Int) := by omega
      have hbs := fun u => run_hash1 (smallH (rd l (k : Int))) hs0 u
      have hcm := fun (u : World) => kH_M (w := u) (base := w.heap.size) (ok := fun _ => False) hs0
      have HTK := Lib.hid (fewP_take hklt hlt2)
      obtain ⟨x, hxe⟩ : ∃ x, rd l (k : Int) = x := ⟨_, rfl⟩
      rw [hxe] at hcell hcell2 hcell3 hbu hbs hcm HTK
      have hload := run_load_u8 wr (ad.add k) _ hcell2
      have hload2 := run_load_u8 wr (ad.add (k * 1)) _ hcell3
      obtain ⟨P, hP⟩ : ∃ P, nums .u8 (smallH x) = P := ⟨_, rfl⟩
      rw [hP] at hbs hcm hbu
      have HRR := Lib.hid hR
      have HBB := Lib.hid hB
      have HBU := Lib.hid hbu
      have HCM := Lib.hid hcm
      have HTL := Lib.hid (show (((fewP l).take k).length + 1) * 32 ≤ 140737488355328 by rw [List.length_take]; omega)
      clear hR hB H hs0 hcm hP hklt hcell hx hbu hxe
      go_wp2_with (first
        | ((with_reducible show wpList _ _ _ (Oper.mk _ (Op.build _ _) _ _ _ _ :: _) _ _); (go_loud (refine wpl_build rfl 25 _ rfl #[(0, .int .u8 x)] (by simp [Act.eval]) P.toArray HBU.out ?_)))
        | ((with_reducible refine gate_builtin (b := .append) (xs := #[.tmp 15, .tmp 21]) rfl ?_); at_builtin; refine Kd.R_append kH (w0 := w) w.heap.size rfl (.tmp 15) (.tmp 21) 22 25 (.agg (nums .u8 (List.replicate 32 0)).toArray) 32 rfl Tryd.underlying22 infoH3 rfl (by decide) (by decide) _ ((fewP l).take k) (smallH x) P (fun _ => True) (fun _ => False) rfl (by first | (go_simp; done) | (go_simp; rfl)) (HCM.out _) (fun _ h => h.elim) (fun _ _ => trivial) HRR.out HBB.out HBB.out.size HTL.out ?_; intro v4 w4 ho hb hg hat; have HR4 := Lib.hid ho; have HB4 := Lib.hid hb; clear ho hb hg hat))
      go_roundw
      case rel => exact ⟨k + 1, by omega, by omega, by go_num, Lib.hid ⟨by rw [HTK.out]; exact HR4.out, HB4.out⟩⟩
      case measure => simp only [intOf]; omega
    · have hx : (fewP l).take k = fewP l := List.take_of_length_le (by
        have := HN.out.1
        simp [fewP]
        omega)
      rw [hx] at hR
      have HRR := Lib.hid hR
      have HB := Lib.hid hB
      by_cases h1 : k < n
      · have hg : decide ((k : Int) < (n : Int)) = true := decide_eq_true (by omega)
        have hg2 : decide ((k : Int) < 20) = false := decide_eq_false (by omega)
        clear hR hB H hx hlt
        go_wp2_with fail
        go_ret
        exact ⟨_, rfl, HRR.out, HB.out⟩
      · have hg : decide ((k : Int) < (n : Int)) = false := decide_eq_false (by omega)
        clear hR hB H hx hlt
        go_wp2_with fail
        go_ret
        exact ⟨_, rfl, HRR.out, HB.out⟩
end Go.Proofs.YtlmcdkjobdcflaaDoor.Hand
