/- The document's step of a block: walked. -/
import Derived.Test.YtefnpecncacepaaDoorProg
import Derived.Below
import Derived.Deep.Draws
import Derived.Deep.AppendLies
import Derived.Maps.AppendAt
import Derived.OwnWalk
import Derived.Laws.BytesArg
import Derived.Laws.MakeOwn
import Derived.Laws.OwnMore
import Derived.Deep.OwnRows
import Derived.Tactics
import Derived.Lib.ConvBytes
import Derived.Laws.Slices
import Derived.WalkKit
import Derived.KernelRfl
import Derived.RowKit3
import Derived.Deep.LoopGhost
import Derived.Deep.QuietTactic
import Derived.BigQuiet
import Derived.WideLaws
import Derived.Deep.DeepCutAuto
import Derived.Deep.CutBlock
import Derived.Deep.RegionHeld3
import Derived.Laws.Rows
import Derived.Lib.AppendStr
import Derived.ArgAppend
import Derived.Laws.IdiomCopy
import Derived.OrdersHeld
import Derived.Laws.BitsLemmas
import Derived.RowKit
import Derived.StillTailTactics
import Derived.Test.YtefnpecncacepaaDoorWWords
import Derived.Test.YtefnpecncacepaaDoorWLast
import Derived.Test.YtefnpecncacepaaDoorWMore
import Derived.Lib.Hide
import Derived.Outline
import Derived.StillTailTactics
import Derived.Deep.MidRow
import Derived.Deep.WholeRow
import Derived.Test.YtefnpecncacepaaDoorArrays
import Derived.Test.YtefnpecncacepaaDoorBlock
namespace Go.Proofs.YtefnpecncacepaaDoor.Hand
open Go Go.RowKit Go.Proofs.YtefnpecncacepaaDoor.Plain Go.Proofs.YtefnpecncacepaaDoor.PAll Go.Proofs.YtefnpecncacepaaDoorW.PrintWords Go.Proofs.YtefnpecncacepaaDoorW.PrintLast Go.Proofs.YtefnpecncacepaaDoorW.PrintMore
set_option linter.unusedVariables false
set_option linter.unusedSimpArgs false
set_option maxRecDepth 100000
theorem rrI_step {x : Int} (h : Wd x) {k : Nat} (hk : k < 32) : (rrI x k / 2 + (rrI x k % 2 * 2147483648) % 4294967296) % 4294967296 = rrI x (k + 1) := by
  have h0 := rr_step (x := x.toNat) (i := k) (by have := h.2; have := h.1; show x.toNat < 4294967296; omega) hk
  have h2 := (rrI_wd h (k + 1)).2
  unfold rrI at h2 ⊢
  omega
theorem rrI_0 {x : Int} (h : Wd x) : rrI x 0 = x := by
  have h0 : rr x.toNat 0 = x.toNat := by
    have h1 : x.toNat < 2 ^ 32 := by have := h.2; have := h.1; show x.toNat < 4294967296; omega
    have h2 := rot_lt (N := 32) (s := 32) (by omega) h1
    unfold rr rot
    simp
    omega
  unfold rrI
  rw [h0]
  have := h.1
  omega
set_option maxHeartbeats 1000000 in
set_option maxRecDepth 100000 in
theorem right_calls (x : Int) (n : Nat) (w : World) (hx : Wd x) (hn : n ≤ 32) :
    Calls Tryd.prog 64 #[.int .u32 x, .int .i64 (n : Int)] w fun e w' => e = .returned (.int .u32 (rrI x n)) ∧ w' = w := by
  have h0 := rrI_0 hx
  have HX := Lib.hid hx
  have H0 := Lib.hid h0
  clear h0 hx
  go_enter Tryd.func64, Tryd.ntmps64
  go_wp2_with fail
  go_loop [0, 5] (fun y i => ∃ k : Nat, k ≤ n ∧ i = .int .i64 (k : Int) ∧ y = .int .u32 (rrI x k)) (fun _ i => (n - (intOf i).toNat))
  case atStart => exact ⟨0, by omega, rfl, by rw [H0.out]⟩
  case round =>
    obtain ⟨k, hk, rfl, rfl⟩ := hrel
    have hw := rrI_wd HX.out k
    have hst : k < n → (rrI x k / 2 + (rrI x k % 2 * 2147483648) % 4294967296) % 4294967296 = rrI x (k + 1) := fun h => rrI_step HX.out (by omega)
    have HST := Lib.hid hst
    clear hst
    obtain ⟨y, hy⟩ : ∃ y, rrI x k = y := ⟨_, rfl⟩
    rw [hy] at hw HST ⊢
    have HY := Lib.hid hy
    have hy0 := hw.1
    have hy1 := hw.2
    clear hy hw
    by_cases hlt : k < n
    · go_wp2_with fail
      go_round
      case rel =>
        refine ⟨k + 1, by omega, by go_num, congrArg (Value.int .u32) ?_⟩
        rw [← HST.out hlt]
        omega
      case measure => simp only [intOf]; omega
    · obtain rfl : k = n := by omega
      go_wp2_with fail
      go_ret
      exact ⟨by rw [HY.out]; rfl, rfl⟩
def kParts : Array (Nat × Value) := #[(0, .int .u32 1116352408), (1, .int .u32 1899447441), (2, .int .u32 3049323471), (3, .int .u32 3921009573), (4, .int .u32 961987163), (5, .int .u32 1508970993), (6, .int .u32 2453635748), (7, .int .u32 2870763221), (8, .int .u32 3624381080), (9, .int .u32 310598401), (10, .int .u32 607225278), (11, .int .u32 1426881987), (12, .int .u32 1925078388), (13, .int .u32 2162078206), (14, .int .u32 2614888103), (15, .int .u32 3248222580), (16, .int .u32 3835390401), (17, .int .u32 4022224774), (18, .int .u32 264347078), (19, .int .u32 604807628), (20, .int .u32 770255983), (21, .int .u32 1249150122), (22, .int .u32 1555081692), (23, .int .u32 1996064986), (24, .int .u32 2554220882), (25, .int .u32 2821834349), (26, .int .u32 2952996808), (27, .int .u32 3210313671), (28, .int .u32 3336571891), (29, .int .u32 3584528711), (30, .int .u32 113926993), (31, .int .u32 338241895), (32, .int .u32 666307205), (33, .int .u32 773529912), (34, .int .u32 1294757372), (35, .int .u32 1396182291), (36, .int .u32 1695183700), (37, .int .u32 1986661051), (38, .int .u32 2177026350), (39, .int .u32 2456956037), (40, .int .u32 2730485921), (41, .int .u32 2820302411), (42, .int .u32 3259730800), (43, .int .u32 3345764771), (44, .int .u32 3516065817), (45, .int .u32 3600352804), (46, .int .u32 4094571909), (47, .int .u32 275423344), (48, .int .u32 430227734), (49, .int .u32 506948616), (50, .int .u32 659060556), (51, .int .u32 883997877), (52, .int .u32 958139571), (53, .int .u32 1322822218), (54, .int .u32 1537002063), (55, .int .u32 1747873779), (56, .int .u32 1955562222), (57, .int .u32 2024104815), (58, .int .u32 2227730452), (59, .int .u32 2361852424), (60, .int .u32 2428436474), (61, .int .u32 2756734187), (62, .int .u32 3204031479), (63, .int .u32 3329325298)]
set_option maxRecDepth 100000 in
theorem kT_built : Tryd.prog.built 109 kParts.toList = some (nums .u32 kT).toArray := by kernel_rfl
set_option maxHeartbeats 1000000 in
set_option maxRecDepth 100000 in
theorem K_calls (w : World) :
    Calls Tryd.prog 65 #[] w fun e w' => e = .returned (.agg (nums .u32 kT).toArray) ∧ Below w.heap.size w w' := by
  have hz := (zero_of_info infoW).1
  obtain ⟨Z, hZ⟩ : ∃ Z, (row64 []).toArray = Z := ⟨_, rfl⟩
  rw [hZ] at hz
  obtain ⟨V, hV⟩ : ∃ V, (nums .u32 kT).toArray = V := ⟨_, rfl⟩
  have HB := Lib.hid kT_built
  rw [hV] at HB ⊢
  have HS := Lib.hid (show (Tryd.prog.info? 109).map (·.size) = some V.size ∧ Z.size = V.size ∧ V.all (·.oneCell') = true by
    rw [← hV, ← hZ, (zero_of_info infoW).2]
    refine ⟨by simp [nums, kT], by simp [nums, kT, row64_len], all_oneCell_toArray (nums_one .u32 kT)⟩)
  clear hZ hV
  go_enter Tryd.func65, Tryd.ntmps65
  go_wp2_with (first | ((with_reducible show wpList _ _ _ (Oper.mk _ (Op.build _ _) _ _ _ _ :: _) _ _); (go_loud (refine wpl_build rfl 109 _ rfl kParts (by unfold kParts; simp [Act.eval]) V HB.out ?_))) | ((with_reducible show wpList _ _ _ (Oper.mk _ (Op.store _ _ _) _ _ _ _ :: _) _ _); (go_loud (refine wpl_store_new rfl 109 (.tmp 0) (.tmp 1) rfl Z V rfl rfl HS.out.1 HS.out.2.1 HS.out.2.2 ?_))))
  exact bodyPost_ret (results_cell_row rfl _ _ w.heap.size 109 V (0, 0) _ rfl (heap_alloc_new w _) Tryd.underlying109 rfl HS.out.1) rfl ⟨rfl, below_alloc (Below.refl _ _) _⟩
end Go.Proofs.YtefnpecncacepaaDoor.Hand
