/- The level above: walked. -/
import Derived.Test.YtlmcdkjobdcflaaDoorProg
import Derived.Below
import Derived.Deep.Draws
import Derived.Deep.AppendLies
import Derived.Maps.AppendAt
import Derived.OwnWalk
import Derived.Laws.BytesArg
import Derived.Laws.MakeOwn
import Derived.Laws.OwnMore
import Derived.Deep.OwnRows
import Derived.Tactics
import Derived.Lib.ConvBytes
import Derived.Laws.Slices
import Derived.WalkKit
import Derived.KernelRfl
import Derived.RowKit3
import Derived.Deep.LoopGhost
import Derived.Deep.QuietTactic
import Derived.BigQuiet
import Derived.WideLaws
import Derived.Deep.DeepCutAuto
import Derived.Deep.CutBlock
import Derived.Deep.RegionHeld3
import Derived.Laws.Rows
import Derived.Lib.AppendStr
import Derived.ArgAppend
import Derived.Laws.IdiomCopy
import Derived.OrdersHeld
import Derived.Laws.BitsLemmas
import Derived.RowKit
import Derived.StillTailTactics
import Derived.Test.YtlmcdkjobdcflaaDoorWWords
import Derived.Test.YtlmcdkjobdcflaaDoorWLast
import Derived.Test.YtlmcdkjobdcflaaDoorWMore
import Derived.Lib.Hide
import Derived.Outline
import Derived.Deep.MidRow
import Derived.Deep.WholeRow
import Derived.Deep.DrawnRows
import Derived.Test.YtlmcdkjobdcflaaDoorHRow
import Derived.Test.YtlmcdkjobdcflaaDoorByteRows
import Derived.Test.YtlmcdkjobdcflaaDoorShaA
import Derived.Test.YtlmcdkjobdcflaaDoorShaB
import Derived.Test.YtlmcdkjobdcflaaDoorTwoVars
namespace Go.Proofs.YtlmcdkjobdcflaaDoor.Hand
open Go Go.RowKit Go.Proofs.YtlmcdkjobdcflaaDoor.Plain Go.Proofs.YtlmcdkjobdcflaaDoor.PAll Go.Proofs.YtlmcdkjobdcflaaDoorW.PrintWords Go.Proofs.YtlmcdkjobdcflaaDoorW.PrintLast Go.Proofs.YtlmcdkjobdcflaaDoorW.PrintMore
set_option linter.unusedVariables false
set_option linter.unusedSimpArgs false
set_option maxRecDepth 100000
attribute [local go_sem ↓] Go.wp_at_zero Go.wp_at_succ
attribute [-go_sem] loadVar storeVar Instr.buildSlice
/-- A hash's cells. -/
def hv (p : List Int) : Array Value := (nums .u8 p).toArray
theorem hv_size {p : List Int} (h : p.length = 32) : (hv p).size = 32 := by simp [hv, nums_len, h]
theorem hv_one (p : List Int) : (hv p).all (·.oneCell') = true := all_oneCell_toArray (nums_one _ _)
theorem infoH3 : (Tryd.prog.info? 25).map (fun i => (i.zero, i.size, i.bytes)) = some (some (.agg (nums .u8 (List.replicate 32 0)).toArray), 32, 32) := by kernel_rfl
theorem range_below {w u : World} {b o : Nat} {cs : List Value} (h : Below w.heap.size w u) (hb : b < w.heap.size) (hr : w.rangeAt b o cs) : u.rangeAt b o cs := fun j v hj => by
  rw [h.cell (p := ⟨b, o + j, none⟩) hb]
  exact hr j v hj
theorem there_blk {w : World} {b n : Nat} {t : TypeId} {C : Array Value} (h : w.heap[b]? = some (.cells C t (0, 0))) (hn : C.size = n) : w.there b 0 n := fun j hj => by
  rw [blk_cell h, blk_frozen h]
  simp [hn, hj]
theorem arrH : Tryd.prog.underlying 25 = some (.array (Tryd.prog.arrayLen 25) (Tryd.prog.elem 25)) ∧ Tryd.prog.arrayLen 25 = 32 := ⟨by kernel_rfl, by kernel_rfl⟩
theorem slice_allH (W : World) (g : Nat) : (Instr.sliceAt 25 (.pointer (some ⟨g, 0, none⟩)) none none none).run Tryd.prog W = .ok (.slice (some ⟨g, 0, none⟩) 32 32) W := by
  rw [run_sliceAt_array_all W 25 ⟨g, 0, none⟩ arrH.1]
  have z : (sizeOf (Tryd.prog.elem 25)).run Tryd.prog W = .ok 1 W := by rfl
  rw [z, arrH.2]
  rfl
theorem list32 {α : Type} (l : List α) (h : l.length = 32) : ∃ x0 x1 x2 x3 x4 x5 x6 x7 x8 x9 x10 x11 x12 x13 x14 x15 x16 x17 x18 x19 x20 x21 x22 x23 x24 x25 x26 x27 x28 x29 x30 x31, l = [x0, x1, x2, x3, x4, x5, x6, x7, x8, x9, x10, x11, x12, x13, x14, x15, x16, x17, x18, x19, x20, x21, x22, x23, x24, x25, x26, x27, x28, x29, x30, x31] := by
  match l, h with
  | [x0, x1, x2, x3, x4, x5, x6, x7, x8, x9, x10, x11, x12, x13, x14, x15, x16, x17, x18, x19, x20, x21, x22, x23, x24, x25, x26, x27, x28, x29, x30, x31], _ => exact ⟨x0, x1, x2, x3, x4, x5, x6, x7, x8, x9, x10, x11, x12, x13, x14, x15, x16, x17, x18, x19, x20, x21, x22, x23, x24, x25, x26, x27, x28, x29, x30, x31, rfl⟩
theorem run_hash1 (p : List Int) (h : p.length = 32) (W : World) : (Instr.buildSlice 22 1 #[(0, .agg (nums .u8 p).toArray)]).run Tryd.prog W = .ok (.slice (some ⟨W.heap.size, 0, none⟩) 1 1) (W.alloc (.cells (nums .u8 p).toArray 25)) := by
  obtain ⟨x0, x1, x2, x3, x4, x5, x6, x7, x8, x9, x10, x11, x12, x13, x14, x15, x16, x17, x18, x19, x20, x21, x22, x23, x24, x25, x26, x27, x28, x29, x30, x31, rfl⟩ := list32 p h
  kernel_rfl
theorem run_build2 (ga gb : Nat) (W : World) : (Instr.buildSlice 62 2 #[(0, .slice (some ⟨ga, 0, none⟩) 32 32), (1, .slice (some ⟨gb, 0, none⟩) 32 32)]).run Tryd.prog W = .ok (.slice (some ⟨W.heap.size, 0, none⟩) 2 2) (W.alloc (.cells #[.slice (some ⟨ga, 0, none⟩) 32 32, .slice (some ⟨gb, 0, none⟩) 32 32] 33)) := by kernel_rfl
theorem make_hashes (m : Nat) (hm : m ≤ 1000000) : ∃ MC : Array Value, (∀ W : World, (Instr.makeSlice 22 (.int .i64 0) (.int .i64 (m : Int))).run Tryd.prog W = .ok (.slice (some ⟨W.heap.size, 0, none⟩) 0 m) (W.alloc (.cells MC 25))) ∧ ∀ W : World, Kd.R kH 25 (W.alloc (.cells MC 25)) W.heap.size (fun _ => True) (.slice (some ⟨W.heap.size, 0, none⟩) 0 m) [] := by
  obtain ⟨I, hI, hzz⟩ := Option.map_eq_some_iff.1 infoH3
  simp only [Prod.mk.injEq] at hzz
  refine ⟨madeCells (Value.agg (nums .u8 (List.replicate 32 0)).toArray).cells (m * 32), fun W => ?_, fun W => ⟨fun _ _ => trivial, [], ?_, Reps.none _ _⟩⟩
  · have h := run_make (P := Tryd.prog) W 22 25 I _ Tryd.underlying22 hI hzz.1 .i64 .i64 0 (m : Int) (by omega) (by omega) (by rw [hzz.2.2]; omega) (by omega)
    rw [hzz.2.1] at h
    exact h
  · exact World.ownsRow_made W _ m (Nat.le_refl _) (by unfold maxLen; omega) (size_madeCells _ _)
set_option maxHeartbeats 2000000 in
theorem above_calls (A : Option Addr) (n c : Nat) (xs : List (List Int)) (w : World) (hn : n = xs.length) (hr : Kd.C kH w A n xs) (hc : n ≤ c) (hl : n ≤ 100000) (hH : Hs xs) (hK : KT w) :
    Calls Tryd.prog 23 #[.slice A n c] w fun e w' => ∃ v, e = .returned v ∧ Kd.R kH 25 w' w.heap.size (fun _ => True) v (aboveP xs) ∧ Below w.heap.size w w' := by
  obtain ⟨m, hm⟩ : ∃ m, (n + 1) / 2 = m := ⟨_, rfl⟩
  obtain ⟨MC, hmk, hR0⟩ := make_hashes m (by omega)
  have hdv : ((n : Int) + 1) / 2 = (m : Int) := by omega
  have HR := Lib.hid hr
  have HN := Lib.hid hn
  have HM := Lib.hid hm
  have HH := Lib.hid hH
  have HK := Lib.hid hK
  have HR0 := Lib.hid hR0
  have HZ := (zero_of_info infoHash).1
  obtain ⟨Z, hZ⟩ : ∃ C, (nums .u8 (List.replicate 32 0)).toArray = C := ⟨_, rfl⟩
  rw [hZ] at HZ
  have hZ32 : Z.size = 32 := by rw [← hZ]; rfl
  have HZ0 := Lib.hid hZ
  clear hr hn hH hK hm hR0 hZ
  go_enter Tryd.func23, Tryd.ntmps23
  go_wp2_with fail
  clear hmk hdv
  have HB0 := Lib.hid (below_alloc (Below.refl w.heap.size w) (.cells MC 25))
  have HRI := Lib.hid (HR0.out w)
  go_loopw [3, 4] (fun v i wr => ∃ k : Nat, k ≤ m ∧ i = .int .i64 ((2 * k : Nat) : Int) ∧ Hid (Kd.R kH 25 wr w.heap.size (fun _ => True) v ((aboveP xs).take k) ∧ Below w.heap.size w wr)) (fun _ i _ => (n + 2 - (intOf i).toNat))
  case atStart => exact ⟨0, Nat.zero_le _, rfl, Lib.hid ⟨HRI.out, HB0.out⟩⟩
  case round =>
    obtain ⟨k, hk, rfl, H⟩ := hrel
    obtain ⟨hR, hB⟩ := H.out
    by_cases hlt : 2 * k < n
    · obtain ⟨j, hj⟩ : ∃ j, min (2 * k + 1) (n - 1) = j := ⟨_, rfl⟩
      have hjn : j < n := by omega
      have hpos : 0 < xs.length := by have := HN.out; omega
      obtain ⟨b, o, rfl, hbl, hrg⟩ := C_hash (by rw [← HN.out]; exact HR.out) hpos
      have hp := (hrg (2 * k) (by rw [← HN.out]; exact hlt))
      have hq := (hrg j (by rw [← HN.out]; exact hjn))
      obtain ⟨p, hpe⟩ : ∃ p, rdH xs (2 * k) = p := ⟨_, rfl⟩
      obtain ⟨q, hqe⟩ : ∃ p, rdH xs j = p := ⟨_, rfl⟩
      rw [hpe] at hp
      rw [hqe] at hq
      obtain ⟨i0, hi0⟩ : ∃ i, 2 * k = i := ⟨_, rfl⟩
      rw [hi0] at hp hlt ⊢
      have g1 : (0 : Int) ≤ (i0 : Int) := by omega
      have g2 : (i0 : Int) < (n : Int) := by omega
      have g3 : (0 : Int) ≤ (j : Int) := by omega
      have g4 : (j : Int) < (n : Int) := by omega
      have hmin : (if (n : Int) - 1 < (i0 : Int) + 1 then (n : Int) - 1 else (i0 : Int) + 1) = (j : Int) := by split <;> omega
      obtain ⟨P, hP⟩ : ∃ P, nums .u8 p = P := ⟨_, rfl⟩
      obtain ⟨Q, hQ⟩ : ∃ P, nums .u8 q = P := ⟨_, rfl⟩
      have hPl : P.length = 32 := by rw [← hP, nums_len]; exact hp.2
      have hQl : Q.length = 32 := by rw [← hQ, nums_len]; exact hq.2
      rw [hP] at hp
      rw [hQ] at hq
      have hS : ∀ u : World, Below w.heap.size w u → u.rangeAt b (o + i0 * 32) P ∧ u.rangeAt b (o + j * 32) Q := fun u hu => ⟨range_below hu hbl hp.1, range_below hu hbl hq.1⟩
      have hu := Tryd.underlying25
      have hi1 : (Tryd.prog.info? 25).map (·.size) = some P.length := by rw [hPl]; exact (zero_of_info infoHash).2
      have hi2 : (Tryd.prog.info? 25).map (·.size) = some Q.length := by rw [hQl]; exact (zero_of_info infoHash).2
      have hP32 : P.toArray.size = 32 := by simpa using hPl
      have hQ32 : Q.toArray.size = 32 := by simpa using hQl
      have hi1' : (Tryd.prog.info? 25).map (·.size) = some P.toArray.size := by simpa using hi1
      have hi2' : (Tryd.prog.info? 25).map (·.size) = some Q.toArray.size := by simpa using hi2
      have HS := Lib.hid hS
      have HB := Lib.hid hB
      have HRR := Lib.hid hR
      have HP := Lib.hid (And.intro hP hPl)
      have HQ := Lib.hid (And.intro hQ hQl)
      have HPQ := Lib.hid (And.intro hpe (And.intro hqe hj))
      have hp2 := HH.out.any (2 * k)
      rw [hpe] at hp2
      have hq2 := HH.out.any j
      rw [hqe] at hq2
      have HPL := Lib.hid (And.intro hp2.1 hq2.1)
      have HY := Lib.hid (show ∀ ys ∈ [p, q], ∀ x ∈ ys, 0 ≤ x ∧ x < 256 from fun ys hy => by
        simp only [List.mem_cons, List.not_mem_nil, or_false] at hy
        rcases hy with rfl | rfl
        · exact hp2.2
        · exact hq2.2)
      have HYL := Lib.hid (show [p, q].flatten.length ≤ 900000 by simp [hp2.1, hq2.1])
      clear hS hB hR hp hq hrg H hpos hP hQ hPl hQl hj hpe hqe hp2 hq2
      go_wp2_with fail
      have hw1 : IntKind.i64.wrap ((i0 : Int) + 1) = (i0 : Int) + 1 := IntWalk.i64_in _ (by omega)
      have hw2 : IntKind.i64.wrap ((n : Int) - 1) = (n : Int) - 1 := IntWalk.i64_in _ (by omega)
      have ho1 : ∀ v ∈ P, v.oneCell' = true := by rw [← HP.out.1]; exact nums_one _ _
      have ho2 : ∀ v ∈ Q, v.oneCell' = true := by rw [← HQ.out.1]; exact nums_one _ _
      have hHeld := HS.out _ (below_drew HB.out)
      refine wp_region_held (S := fun u => u.rangeAt b (o + i0 * 32) P ∧ u.rangeAt b (o + j * 32) Q) (by kernel_rfl) ?_
      change wpAnyH _ _ _ _ _ _ _ _ (World.drew _)
      refine wpAnyH_take (i := 0) (oi := ({ dst := some 18, op := Op.move (Operand.tmp 0), type := 22, pos := "merkle.go:15", after := #[], guard := none } : Oper)) (v := .slice (some ⟨b, o, none⟩) n c) rfl (by kernel_rfl) (by kernel_rfl) (by kernel_rfl) (fun _ _ _ h => h) (Or.inl ⟨by rfl, fun w hSw => by go_simp⟩) hHeld ?_
      simp only [Act.put, List.setIfInBounds_toArray, List.set_cons_zero, List.set_cons_succ]
      refine wpAnyH_take (i := 1) (oi := ({ dst := some 19, op := Op.move (Operand.tmp 4), type := 3, pos := "merkle.go:15", after := #[], guard := none } : Oper)) (v := .int .i64 (i0 : Int)) rfl (by kernel_rfl) (by kernel_rfl) (by kernel_rfl) (fun _ _ _ h => h) (Or.inl ⟨by rfl, fun w hSw => by go_simp⟩) hHeld ?_
      simp only [Act.put, List.setIfInBounds_toArray, List.set_cons_zero, List.set_cons_succ]
      refine wpAnyH_take (i := 2) (oi := ({ dst := some 20, op := Op.indexAddr 22 (Operand.tmp 18) (Operand.tmp 19), type := 0, pos := "merkle.go:15", after := #[{ on := 0, ground := Ground.data }, { on := 1, ground := Ground.data }], guard := none } : Oper)) (v := .pointer (some ⟨b, o + i0 * 32, none⟩)) rfl (by kernel_rfl) (by kernel_rfl) (by kernel_rfl) (fun _ _ _ h => h) (Or.inl ⟨by rfl, fun w hSw => by go_simp⟩) hHeld ?_
      simp only [Act.put, List.setIfInBounds_toArray, List.set_cons_zero, List.set_cons_succ]
      refine wpAnyH_take (i := 3) (oi := ({ dst := some 21, op := Op.load 25 (Operand.tmp 20), type := 25, pos := "merkle.go:15", after := #[{ on := 2, ground := Ground.data }], guard := none } : Oper)) (v := .agg P.toArray) rfl (by kernel_rfl) (by kernel_rfl) (by kernel_rfl) (fun _ _ _ h => h) (yieldsIf_load_mid (by rfl) _ _ rfl b (o + i0 * 32) rfl P _ (fun _ h => h.1) hu rfl hi1) hHeld ?_
      simp only [Act.put, List.setIfInBounds_toArray, List.set_cons_zero, List.set_cons_succ]
      refine wpAnyH_take (i := 4) (oi := ({ dst := some 22, op := Op.move (Operand.tmp 0), type := 22, pos := "merkle.go:15", after := #[], guard := none } : Oper)) (v := .slice (some ⟨b, o, none⟩) n c) rfl (by kernel_rfl) (by kernel_rfl) (by kernel_rfl) (fun _ _ _ h => h) (Or.inl ⟨by rfl, fun w hSw => by go_simp⟩) hHeld ?_
      simp only [Act.put, List.setIfInBounds_toArray, List.set_cons_zero, List.set_cons_succ]
      refine wpAnyH_take (i := 5) (oi := ({ dst := some 23, op := Op.move (Operand.tmp 4), type := 3, pos := "merkle.go:15", after := #[], guard := none } : Oper)) (v := .int .i64 (i0 : Int)) rfl (by kernel_rfl) (by kernel_rfl) (by kernel_rfl) (fun _ _ _ h => h) (Or.inl ⟨by rfl, fun w hSw => by go_simp⟩) hHeld ?_
      simp only [Act.put, List.setIfInBounds_toArray, List.set_cons_zero, List.set_cons_succ]
      refine wpAnyH_take (i := 6) (oi := ({ dst := some 24, op := Op.binOp BinOp.add 3 (Operand.tmp 23) (Operand.const (Value.int IntKind.i64 1)) 3, type := 3, pos := "merkle.go:15", after := #[{ on := 5, ground := Ground.data }], guard := none } : Oper)) (v := .int .i64 ((i0 : Int) + 1)) rfl (by kernel_rfl) (by kernel_rfl) (by kernel_rfl) (fun _ _ _ h => h) (Or.inl ⟨by rfl, fun w hSw => by go_simp⟩) hHeld ?_
      simp only [Act.put, List.setIfInBounds_toArray, List.set_cons_zero, List.set_cons_succ]
      refine wpAnyH_take (i := 7) (oi := ({ dst := some 25, op := Op.move (Operand.tmp 0), type := 22, pos := "merkle.go:15", after := #[], guard := none } : Oper)) (v := .slice (some ⟨b, o, none⟩) n c) rfl (by kernel_rfl) (by kernel_rfl) (by kernel_rfl) (fun _ _ _ h => h) (Or.inl ⟨by rfl, fun w hSw => by go_simp⟩) hHeld ?_
      simp only [Act.put, List.setIfInBounds_toArray, List.set_cons_zero, List.set_cons_succ]
      refine wpAnyH_take (i := 8) (oi := ({ dst := some 26, op := Op.call { callee := Callee.builtin Builtin.len, args := #[Operand.tmp 25], argTypes := #[22] }, type := 3, pos := "merkle.go:15", after := #[{ on := 7, ground := Ground.data }], guard := none } : Oper)) (v := .int .i64 (n : Int)) rfl (by kernel_rfl) (by kernel_rfl) (by kernel_rfl) (fun _ _ _ h => h) (Or.inl ⟨by rfl, fun w hSw => by go_simp⟩) hHeld ?_
      simp only [Act.put, List.setIfInBounds_toArray, List.set_cons_zero, List.set_cons_succ]
      refine wpAnyH_take (i := 9) (oi := ({ dst := some 27, op := Op.binOp BinOp.sub 3 (Operand.tmp 26) (Operand.const (Value.int IntKind.i64 1)) 3, type := 3, pos := "merkle.go:15", after := #[{ on := 8, ground := Ground.data }], guard := none } : Oper)) (v := .int .i64 ((n : Int) - 1)) rfl (by kernel_rfl) (by kernel_rfl) (by kernel_rfl) (fun _ _ _ h => h) (Or.inl ⟨by rfl, fun w hSw => by go_simp⟩) hHeld ?_
      simp only [Act.put, List.setIfInBounds_toArray, List.set_cons_zero, List.set_cons_succ]
      refine wpAnyH_take (i := 10) (oi := ({ dst := some 28, op := Op.call { callee := Callee.builtin Builtin.min, args := #[Operand.tmp 24, Operand.tmp 27], argTypes := #[3, 3] }, type := 3, pos := "merkle.go:15", after := #[{ on := 6, ground := Ground.data }, { on := 9, ground := Ground.data }], guard := none } : Oper)) (v := .int .i64 (j : Int)) rfl (by kernel_rfl) (by kernel_rfl) (by kernel_rfl) (fun _ _ _ h => h) (Or.inl ⟨by rfl, fun w hSw => by go_simp⟩) hHeld ?_
      simp only [Act.put, List.setIfInBounds_toArray, List.set_cons_zero, List.set_cons_succ]
      refine wpAnyH_take (i := 11) (oi := ({ dst := some 29, op := Op.indexAddr 22 (Operand.tmp 22) (Operand.tmp 28), type := 0, pos := "merkle.go:15", after := #[{ on := 4, ground := Ground.data }, { on := 10, ground := Ground.data }], guard := none } : Oper)) (v := .pointer (some ⟨b, o + j * 32, none⟩)) rfl (by kernel_rfl) (by kernel_rfl) (by kernel_rfl) (fun _ _ _ h => h) (Or.inl ⟨by rfl, fun w hSw => by go_simp⟩) hHeld ?_
      simp only [Act.put, List.setIfInBounds_toArray, List.set_cons_zero, List.set_cons_succ]
      refine wpAnyH_take (i := 12) (oi := ({ dst := some 30, op := Op.load 25 (Operand.tmp 29), type := 25, pos := "merkle.go:15", after := #[{ on := 11, ground := Ground.data }], guard := none } : Oper)) (v := .agg Q.toArray) rfl (by kernel_rfl) (by kernel_rfl) (by kernel_rfl) (fun _ _ _ h => h) (yieldsIf_load_mid (by rfl) _ _ rfl b (o + j * 32) rfl Q _ (fun _ h => h.2) hu rfl hi2) hHeld ?_
      simp only [Act.put, List.setIfInBounds_toArray, List.set_cons_zero, List.set_cons_succ]
      refine wpAnyH_act ?_
      intro a0 ha0
      refine wpAnyH_inv (fun listed a W => listed.size = 17 ∧ (∀ i, i < 13 → listed.getD i false = true) ∧ ∃ v5 v6, a = (a0.put (some 5) v5).put (some 6) v6 ∧ TV 25 32 wr.heap.size P.toArray Q.toArray wr (listed.getD 13 false) (listed.getD 14 false) (listed.getD 15 false) (listed.getD 16 false) v5 v6 W) ?hS ?hend ?hstep _ _ _ _ (by decide) ?h0
      case hS =>
        rintro listed a W ⟨_, _, v5, v6, _, hT⟩
        exact HS.out _ (HB.out.trans (Below.mono hT.below HB.out.size))
      case h0 =>
        refine ⟨rfl, by decide, u5, u6, by rw [ha0]; rfl, ⟨below_drew (Below.refl _ _), Nat.le_refl _, ?_, ?_, ?_, ?_, ?_⟩⟩ <;> intro h <;> cases h
      case hend =>
        rintro listed a W ⟨hsz, hlo, v5, v6, rfl, hT⟩ hr
        have l13 := ready_of (j := 13) (o := ({ dst := some 5, op := Op.alloc 25, type := 0, pos := "merkle.go:15", after := #[], guard := none } : Oper)) hr rfl (by rw [hsz]; decide) [] (by simp) (by kernel_rfl)
        have l14 := ready_of (j := 14) (o := ({ dst := some 6, op := Op.alloc 25, type := 0, pos := "merkle.go:15", after := #[], guard := none } : Oper)) hr rfl (by rw [hsz]; decide) [] (by simp) (by kernel_rfl)
        have hall : ∀ k, (List.range 15).contains k = true → listed.getD k false = true := by
          intro k hk
          have : k < 15 := by simpa using hk
          by_cases h : k < 13
          · exact hlo k h
          · obtain rfl | rfl : k = 13 ∨ k = 14 := by omega
            · exact l13
            · exact l14
        have l15 := ready_of (j := 15) (o := ({ dst := none, op := Op.store 25 (Operand.tmp 5) (Operand.tmp 21), type := 0, pos := "merkle.go:15", after := #[{ on := 13, ground := Ground.data }, { on := 3, ground := Ground.data }, { on := 0, ground := Ground.phase }, { on := 1, ground := Ground.phase }, { on := 2, ground := Ground.phase }, { on := 3, ground := Ground.phase }, { on := 4, ground := Ground.textOnly Departure.lateStores }, { on := 5, ground := Ground.textOnly Departure.lateStores }, { on := 6, ground := Ground.textOnly Departure.lateStores }, { on := 7, ground := Ground.textOnly Departure.lateStores }, { on := 8, ground := Ground.textOnly Departure.lateStoresUnsure }, { on := 9, ground := Ground.textOnly Departure.lateStores }, { on := 10, ground := Ground.textOnly Departure.lateStoresUnsure }, { on := 11, ground := Ground.textOnly Departure.lateStoresUnsure }, { on := 12, ground := Ground.phase }, { on := 13, ground := Ground.phase }, { on := 14, ground := Ground.phase }], guard := none } : Oper)) hr rfl (by rw [hsz]; decide) (List.range 15) hall (by kernel_rfl)
        have hall2 : ∀ k, (List.range 16).contains k = true → listed.getD k false = true := by
          intro k hk
          have : k < 16 := by simpa using hk
          by_cases h : k < 15
          · exact hall k (by simpa using h)
          · obtain rfl : k = 15 := by omega
            exact l15
        have l16 := ready_of (j := 16) (o := ({ dst := none, op := Op.store 25 (Operand.tmp 6) (Operand.tmp 30), type := 0, pos := "merkle.go:15", after := #[{ on := 14, ground := Ground.data }, { on := 12, ground := Ground.data }, { on := 15, ground := Ground.chain }, { on := 0, ground := Ground.phase }, { on := 1, ground := Ground.phase }, { on := 2, ground := Ground.phase }, { on := 3, ground := Ground.phase }, { on := 4, ground := Ground.phase }, { on := 5, ground := Ground.phase }, { on := 6, ground := Ground.phase }, { on := 7, ground := Ground.phase }, { on := 8, ground := Ground.phase }, { on := 9, ground := Ground.phase }, { on := 10, ground := Ground.phase }, { on := 11, ground := Ground.phase }, { on := 12, ground := Ground.phase }, { on := 13, ground := Ground.phase }, { on := 14, ground := Ground.phase }, { on := 15, ground := Ground.phase }], guard := none } : Oper)) hr rfl (by rw [hsz]; decide) (List.range 16) hall2 (by kernel_rfl)
        rw [l13, l14, l15, l16] at hT
        obtain ⟨ga, Ca, rfl, hga, hCa, _, ea⟩ := hT.one rfl
        obtain ⟨gb, Cb, rfl, hgb, hCb, _, eb⟩ := hT.two rfl
        obtain rfl := ea rfl
        obtain rfl := eb rfl
        have hba := hT.below
        subst ha0
        simp only [Act.put, List.setIfInBounds_toArray, List.set_cons_zero, List.set_cons_succ]
        obtain ⟨CA, hCA⟩ : ∃ C, nums .u8 (twiceP ([p, q].flatten)) = C := ⟨_, rfl⟩
        have HBA := Lib.hid hba
        have HBW := Lib.hid (HB.out.trans (Below.mono hba HB.out.size))
        have HCP := Lib.hid hCa
        have HCQ := Lib.hid hCb
        have hs := fun W g => slice_allH W g
        clear hT hlo hall hall2 l13 l14 l15 l16 hsz hr ea eb hba hCa hCb
        have HC2 := Lib.hid (show Kd.C kBs (W.alloc (.cells #[.slice (some ⟨ga, 0, none⟩) 32 32, .slice (some ⟨gb, 0, none⟩) 32 32] 33)).drew (some ⟨W.heap.size, 0, none⟩) 2 [p, q] from by
          have e1 := C_of_block (pre := []) (post := []) (k := .u8) (ys := p) (o := 0) (t := 25) (fr := (0, 0)) (w := W) (b := ga) (by rw [List.nil_append, List.append_nil, HP.out.1]; exact HCP.out) rfl (by rw [HPL.out.1]; decide)
          have e2 := C_of_block (pre := []) (post := []) (k := .u8) (ys := q) (o := 0) (t := 25) (fr := (0, 0)) (w := W) (b := gb) (by rw [List.nil_append, List.append_nil, HQ.out.1]; exact HCQ.out) rfl (by rw [HPL.out.2]; decide)
          have e3 := C_row2 (W := (W.alloc (.cells #[.slice (some ⟨ga, 0, none⟩) p.length 32, .slice (some ⟨gb, 0, none⟩) q.length 32] 33)).drew) (heap_alloc_new W _) (by rw [HPL.out.1]; exact Nat.le_refl _) (Kd.C_drew (Kd.C_alloc e1 _)) (by rw [HPL.out.2]; exact Nat.le_refl _) (Kd.C_drew (Kd.C_alloc e2 _))
          rw [HPL.out.1, HPL.out.2] at e3
          exact e3)
        have HBW2 := Lib.hid (below_drew (HBW.out.alloc HBW.out.size (.cells #[.slice (some ⟨ga, 0, none⟩) 32 32, .slice (some ⟨gb, 0, none⟩) 32 32] 33)))
        obtain ⟨W2, hW2⟩ : ∃ W2, (W.alloc (.cells #[.slice (some ⟨ga, 0, none⟩) 32 32, .slice (some ⟨gb, 0, none⟩) 32 32] 33)).drew = W2 := ⟨_, rfl⟩
        have HBA2 := Lib.hid (below_drew (below_alloc HBA.out (.cells #[.slice (some ⟨ga, 0, none⟩) 32 32, .slice (some ⟨gb, 0, none⟩) 32 32] 33)))
        rw [hW2] at HC2 HBW2 HBA2
        have HTW := Lib.hid (twice_calls (some ⟨W.heap.size, 0, none⟩) 2 2 [p, q] W2 rfl HC2.out HY.out HYL.out (by decide) (HK.out.below HBW2.out (Nat.le_refl _)))
        rw [hCA] at HTW
        have hbt := fun u : World => run_build2 ga gb u
        have hbs := fun u => run_hash1 (twiceP [p, q].flatten) (twiceP_len _) u
        rw [hCA] at hbs
        have HCM := Lib.hid (show ∀ u : World, kH.M u w.heap.size (fun _ => False) (twiceP [p, q].flatten) CA from fun u => by rw [← hCA]; exact kH_M (twiceP_len _))
        have HTL := Lib.hid (show (((aboveP xs).take k).length + 1) * 32 ≤ 140737488355328 by rw [List.length_take]; omega)
        have HAT := Lib.hid (show (aboveP xs).take k ++ [twiceP [p, q].flatten] = (aboveP xs).take (k + 1) by
          rw [above_take (by have := HN.out; omega), aboveAt, ← HN.out, HPQ.out.2.2, HPQ.out.1, HPQ.out.2.1]
          simp)
        have HKM := Lib.hid (show k + 1 ≤ m by have := HM.out; omega)
        have HK2 := Lib.hid (show (Value.int .i64 ((i0 : Int) + 2)) = .int .i64 ((2 * (k + 1) : Nat) : Int) by congr 1; omega)
        clear hCA
        go_wp2_with fail
        go_region_held3 (fun u => True) (trivial) (first
          | (go_at_call 50; (with_reducible refine HTW.out.mono ?_); rintro e w3 ⟨rfl, hb3⟩; have HB3 := Lib.hid (HBW2.out.trans (Below.mono hb3 HBW2.out.size)); have HR3 := Lib.hid (Kd.R_below HRR.out (HBA2.out.trans (Below.mono hb3 HBA2.out.size))); clear hb3)
          | (refine Kd.R_append_step kH (w0 := w) w.heap.size (by rfl) (.tmp 31) (.tmp 36) 22 25 (.agg (nums .u8 (List.replicate 32 0)).toArray) 32 (by rfl) Tryd.underlying22 infoH3 rfl (by decide) (by decide) u3 ((aboveP xs).take k) (twiceP [p, q].flatten) CA (fun _ => True) (fun _ => False) (by rfl) (by rfl) (HCM.out _) (fun _ h => h.elim) (fun _ _ => trivial) HR3.out HB3.out HB3.out.size HTL.out ?_; intro v4 w4 ho hb hg hat; have HR4 := Lib.hid ho; have HB4 := Lib.hid hb; clear ho hb hg hat))
        go_wp2
        go_roundw
        case rel => exact ⟨k + 1, HKM.out, HK2.out, Lib.hid ⟨HAT.out ▸ HR4.out, HB4.out⟩⟩
        case measure => simp only [intOf]; omega
      case hstep =>
        rintro listed a W i ⟨hsz, hlo, v5, v6, rfl, hT⟩ hi
        have hlt : i < 17 := (ready_lt hi).1
        have hun := unlisted_of hi
        have h13 : ¬ i < 13 := fun h => by rw [hlo i h] at hun; cases hun
        have hlo2 : ∀ k, k < 13 → (listed.setIfInBounds i true).getD k false = true := fun k hk => by
          rw [listed_set (by omega)]
          split
          · rfl
          · exact hlo k hk
        obtain rfl | rfl | rfl | rfl : i = 13 ∨ i = 14 ∨ i = 15 ∨ i = 16 := by omega
        · refine wpOp_of (o := ({ dst := some 5, op := Op.alloc 25, type := 0, pos := "merkle.go:15", after := #[], guard := none } : Oper)) rfl rfl (wp_alloc 25 rfl Z HZ ?_)
          refine ⟨by simp [hsz], hlo2, _, v6, act_put3 _ _ _ _ _ _ (by decide), ?_⟩
          simp only [listed_set (show 13 < listed.size by omega)]
          rw [hun] at hT
          exact hT.make1 hZ32
        · refine wpOp_of (o := ({ dst := some 6, op := Op.alloc 25, type := 0, pos := "merkle.go:15", after := #[], guard := none } : Oper)) rfl rfl (wp_alloc 25 rfl Z HZ ?_)
          refine ⟨by simp [hsz], hlo2, v5, _, act_put2 _ _ _ _ _ _, ?_⟩
          simp only [listed_set (show 14 < listed.size by omega)]
          rw [hun] at hT
          exact (hT.swap.make1 hZ32).swap
        · have hm := waits_of (o := ({ dst := none, op := Op.store 25 (Operand.tmp 5) (Operand.tmp 21), type := 0, pos := "merkle.go:15", after := #[{ on := 13, ground := Ground.data }, { on := 3, ground := Ground.data }, { on := 0, ground := Ground.phase }, { on := 1, ground := Ground.phase }, { on := 2, ground := Ground.phase }, { on := 3, ground := Ground.phase }, { on := 4, ground := Ground.textOnly Departure.lateStores }, { on := 5, ground := Ground.textOnly Departure.lateStores }, { on := 6, ground := Ground.textOnly Departure.lateStores }, { on := 7, ground := Ground.textOnly Departure.lateStores }, { on := 8, ground := Ground.textOnly Departure.lateStoresUnsure }, { on := 9, ground := Ground.textOnly Departure.lateStores }, { on := 10, ground := Ground.textOnly Departure.lateStoresUnsure }, { on := 11, ground := Ground.textOnly Departure.lateStoresUnsure }, { on := 12, ground := Ground.phase }, { on := 13, ground := Ground.phase }, { on := 14, ground := Ground.phase }], guard := none } : Oper)) hi rfl 13 (by kernel_rfl)
          rw [hm] at hT
          obtain ⟨g, C, rfl, hC, hCs, hT2⟩ := hT.set1_ hP32
          refine wpOp_of (o := ({ dst := none, op := Op.store 25 (Operand.tmp 5) (Operand.tmp 21), type := 0, pos := "merkle.go:15", after := #[{ on := 13, ground := Ground.data }, { on := 3, ground := Ground.data }, { on := 0, ground := Ground.phase }, { on := 1, ground := Ground.phase }, { on := 2, ground := Ground.phase }, { on := 3, ground := Ground.phase }, { on := 4, ground := Ground.textOnly Departure.lateStores }, { on := 5, ground := Ground.textOnly Departure.lateStores }, { on := 6, ground := Ground.textOnly Departure.lateStores }, { on := 7, ground := Ground.textOnly Departure.lateStores }, { on := 8, ground := Ground.textOnly Departure.lateStoresUnsure }, { on := 9, ground := Ground.textOnly Departure.lateStores }, { on := 10, ground := Ground.textOnly Departure.lateStoresUnsure }, { on := 11, ground := Ground.textOnly Departure.lateStoresUnsure }, { on := 12, ground := Ground.phase }, { on := 13, ground := Ground.phase }, { on := 14, ground := Ground.phase }], guard := none } : Oper)) rfl rfl (wp_store_row 25 (.tmp 5) (.tmp 21) rfl g P.toArray (by rw [ha0]; rfl) (by rw [ha0]; rfl) 25 C hC hi1' hCs (all_oneCell_toArray ho1) ?_)
          refine ⟨by simp [hsz], hlo2, _, v6, rfl, ?_⟩
          simp only [listed_set (show 15 < listed.size by omega), hm]
          exact hT2
        · have hm := waits_of (o := ({ dst := none, op := Op.store 25 (Operand.tmp 6) (Operand.tmp 30), type := 0, pos := "merkle.go:15", after := #[{ on := 14, ground := Ground.data }, { on := 12, ground := Ground.data }, { on := 15, ground := Ground.chain }, { on := 0, ground := Ground.phase }, { on := 1, ground := Ground.phase }, { on := 2, ground := Ground.phase }, { on := 3, ground := Ground.phase }, { on := 4, ground := Ground.phase }, { on := 5, ground := Ground.phase }, { on := 6, ground := Ground.phase }, { on := 7, ground := Ground.phase }, { on := 8, ground := Ground.phase }, { on := 9, ground := Ground.phase }, { on := 10, ground := Ground.phase }, { on := 11, ground := Ground.phase }, { on := 12, ground := Ground.phase }, { on := 13, ground := Ground.phase }, { on := 14, ground := Ground.phase }, { on := 15, ground := Ground.phase }], guard := none } : Oper)) hi rfl 14 (by kernel_rfl)
          rw [hm] at hT
          obtain ⟨g, C, rfl, hC, hCs, hT2⟩ := hT.swap.set1_ hQ32
          refine wpOp_of (o := ({ dst := none, op := Op.store 25 (Operand.tmp 6) (Operand.tmp 30), type := 0, pos := "merkle.go:15", after := #[{ on := 14, ground := Ground.data }, { on := 12, ground := Ground.data }, { on := 15, ground := Ground.chain }, { on := 0, ground := Ground.phase }, { on := 1, ground := Ground.phase }, { on := 2, ground := Ground.phase }, { on := 3, ground := Ground.phase }, { on := 4, ground := Ground.phase }, { on := 5, ground := Ground.phase }, { on := 6, ground := Ground.phase }, { on := 7, ground := Ground.phase }, { on := 8, ground := Ground.phase }, { on := 9, ground := Ground.phase }, { on := 10, ground := Ground.phase }, { on := 11, ground := Ground.phase }, { on := 12, ground := Ground.phase }, { on := 13, ground := Ground.phase }, { on := 14, ground := Ground.phase }, { on := 15, ground := Ground.phase }], guard := none } : Oper)) rfl rfl (wp_store_row 25 (.tmp 6) (.tmp 30) rfl g Q.toArray (by rw [ha0]; rfl) (by rw [ha0]; rfl) 25 C hC hi2' hCs (all_oneCell_toArray ho2) ?_)
          refine ⟨by simp [hsz], hlo2, v5, _, rfl, ?_⟩
          simp only [listed_set (show 16 < listed.size by omega), hm]
          exact hT2.swap
    · obtain rfl : k = m := by have := HM.out; omega
      have hx : (aboveP xs).take k = aboveP xs := List.take_of_length_le (by rw [aboveP_len, ← HN.out, HM.out]; exact Nat.le_refl _)
      rw [hx] at hR
      have HRR := Lib.hid hR
      have HB := Lib.hid hB
      clear hR hB H hx
      go_wp2_with fail
      go_ret
      exact ⟨_, rfl, HRR.out, HB.out⟩
end Go.Proofs.YtlmcdkjobdcflaaDoor.Hand
