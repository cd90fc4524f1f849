/- The document's step of a block: the function itself. -/
import Derived.Test.YtefnpecncacepaaDoorProg
import Derived.Below
import Derived.Deep.Draws
import Derived.Deep.AppendLies
import Derived.Maps.AppendAt
import Derived.OwnWalk
import Derived.Laws.BytesArg
import Derived.Laws.MakeOwn
import Derived.Laws.OwnMore
import Derived.Deep.OwnRows
import Derived.Tactics
import Derived.Lib.ConvBytes
import Derived.Laws.Slices
import Derived.WalkKit
import Derived.KernelRfl
import Derived.RowKit3
import Derived.Deep.LoopGhost
import Derived.Deep.QuietTactic
import Derived.BigQuiet
import Derived.WideLaws
import Derived.Deep.DeepCutAuto
import Derived.Deep.CutBlock
import Derived.Deep.RegionHeld3
import Derived.Laws.Rows
import Derived.Lib.AppendStr
import Derived.ArgAppend
import Derived.Laws.IdiomCopy
import Derived.OrdersHeld
import Derived.Laws.BitsLemmas
import Derived.RowKit
import Derived.StillTailTactics
import Derived.Test.YtefnpecncacepaaDoorWWords
import Derived.Test.YtefnpecncacepaaDoorWLast
import Derived.Test.YtefnpecncacepaaDoorWMore
import Derived.Lib.Hide
import Derived.Outline
import Derived.StillTailTactics
import Derived.Deep.DrawnRows
import Derived.Deep.RegionHeld3
import Derived.Deep.MidRow
import Derived.Deep.WholeRow
import Derived.Test.YtefnpecncacepaaDoorArrays
import Derived.Test.YtefnpecncacepaaDoorStep
import Derived.Test.YtefnpecncacepaaDoorPushKeep
namespace Go.Proofs.YtefnpecncacepaaDoor.Hand
open Go Go.RowKit Go.Proofs.YtefnpecncacepaaDoor.Plain Go.Proofs.YtefnpecncacepaaDoor.PAll Go.Proofs.YtefnpecncacepaaDoorW.PrintWords Go.Proofs.YtefnpecncacepaaDoorW.PrintLast Go.Proofs.YtefnpecncacepaaDoorW.PrintMore
set_option linter.unusedVariables false
set_option linter.unusedSimpArgs false
set_option maxRecDepth 100000
theorem info32 : (Tryd.prog.info? 22).map (fun i => (i.zero, i.size, i.bytes)) = some (some (.int .u32 0), 1, 4) := by kernel_rfl
theorem first16_get (bs : List Int) (k : Nat) (hk : k < 16) : (first16 bs).take (k + 1) = (first16 bs).take k ++ [big4 bs k] := take16_step bs k hk
theorem mix_8' (s v : St) : arrF (mixF v s 8) = s8 ⟨add32 s.a v.a, add32 s.b v.b, add32 s.c v.c, add32 s.d v.d, add32 s.e v.e, add32 s.f v.f, add32 s.g v.g, add32 s.h v.h⟩ := by
  have h : ∀ a b, add32 a b = add32 b a := fun a b => by unfold add32; rw [Int.add_comm]
  rw [h s.a, h s.b, h s.c, h s.d, h s.e, h s.f, h s.g, h s.h]
  rfl
theorem set8 {w : World} {b : Nat} {t : TypeId} {sa sb sc sd se sf sg sh : Int} (h : w.heap[b]? = some (.cells (s8 ⟨sa, sb, sc, sd, se, sf, sg, sh⟩) t (0, 0))) (N E : Int) :
    ((((((((w.setCell ⟨b, 7, none⟩ (.int .u32 sg)).setCell ⟨b, 6, none⟩ (.int .u32 sf)).setCell ⟨b, 5, none⟩ (.int .u32 se)).setCell ⟨b, 4, none⟩ (.int .u32 E)).setCell ⟨b, 3, none⟩ (.int .u32 sc)).setCell ⟨b, 2, none⟩ (.int .u32 sb)).setCell ⟨b, 1, none⟩ (.int .u32 sa)).setCell ⟨b, 0, none⟩ (.int .u32 N)).heap[b]? = some (.cells (s8 ⟨N, sa, sb, sc, E, se, sf, sg⟩) t (0, 0)) := by
  have h1 := blk_set h 7 (.int .u32 sg)
  have h2 := blk_set h1 6 (.int .u32 sf)
  have h3 := blk_set h2 5 (.int .u32 se)
  have h4 := blk_set h3 4 (.int .u32 E)
  have h5 := blk_set h4 3 (.int .u32 sc)
  have h6 := blk_set h5 2 (.int .u32 sb)
  have h7 := blk_set h6 1 (.int .u32 sa)
  have h8 := blk_set h7 0 (.int .u32 N)
  refine h8.trans ?_
  simp only [s8, List.setIfInBounds_toArray, List.set_cons_zero, List.set_cons_succ]
theorem far8 {w : World} {b k : Nat} {sa sb sc se sf sg N E : Int} (h : k ≠ b) : ((((((((w.setCell ⟨b, 7, none⟩ (.int .u32 sg)).setCell ⟨b, 6, none⟩ (.int .u32 sf)).setCell ⟨b, 5, none⟩ (.int .u32 se)).setCell ⟨b, 4, none⟩ (.int .u32 E)).setCell ⟨b, 3, none⟩ (.int .u32 sc)).setCell ⟨b, 2, none⟩ (.int .u32 sb)).setCell ⟨b, 1, none⟩ (.int .u32 sa)).setCell ⟨b, 0, none⟩ (.int .u32 N)).heap[k]? = w.heap[k]? :=
  (Below.heap_setCell _ ⟨b, 0, none⟩ _ k h).trans ((Below.heap_setCell _ ⟨b, 1, none⟩ _ k h).trans ((Below.heap_setCell _ ⟨b, 2, none⟩ _ k h).trans ((Below.heap_setCell _ ⟨b, 3, none⟩ _ k h).trans ((Below.heap_setCell _ ⟨b, 4, none⟩ _ k h).trans ((Below.heap_setCell _ ⟨b, 5, none⟩ _ k h).trans ((Below.heap_setCell _ ⟨b, 6, none⟩ _ k h).trans (Below.heap_setCell _ ⟨b, 7, none⟩ _ k h)))))))
theorem below8 {w w0 : World} {b B : Nat} {sa sb sc se sf sg N E : Int} (hb : Below B w0 w) (h : B ≤ b) : Below B w0 ((((((((w.setCell ⟨b, 7, none⟩ (.int .u32 sg)).setCell ⟨b, 6, none⟩ (.int .u32 sf)).setCell ⟨b, 5, none⟩ (.int .u32 se)).setCell ⟨b, 4, none⟩ (.int .u32 E)).setCell ⟨b, 3, none⟩ (.int .u32 sc)).setCell ⟨b, 2, none⟩ (.int .u32 sb)).setCell ⟨b, 1, none⟩ (.int .u32 sa)).setCell ⟨b, 0, none⟩ (.int .u32 N)) :=
  ((((((((hb.setCell (p := ⟨b, 7, none⟩) h _).setCell (p := ⟨b, 6, none⟩) h _).setCell (p := ⟨b, 5, none⟩) h _).setCell (p := ⟨b, 4, none⟩) h _).setCell (p := ⟨b, 3, none⟩) h _).setCell (p := ⟨b, 2, none⟩) h _).setCell (p := ⟨b, 1, none⟩) h _).setCell (p := ⟨b, 0, none⟩) h _)
theorem first16_len (bs : List Int) : (first16 bs).length = 16 := by simp [first16]
attribute [local go_sem ↓] Go.wp_at_zero Go.wp_at_succ
set_option maxHeartbeats 4000000 in
set_option maxRecDepth 100000 in
theorem step_calls (s : St) (A : Option Addr) (c : Nat) (bs : List Int) (w : World) (hs : s.wd) (hr : Kd.C (Kd.int .u8) w A 64 bs) (hc : 64 ≤ c) (hl : bs.length = 64) (hby : ∀ x ∈ bs, 0 ≤ x ∧ x < 256) :
    Calls Tryd.prog 56 #[.agg (s8 s), .slice A 64 c] w fun e w' => e = .returned (.agg (s8 (stepS s bs))) ∧ Below w.heap.size w w' := by
  have HS := Lib.hid hs
  have HL := Lib.hid hl
  have HBY := Lib.hid hby
  have hz8 := (zero_of_info info8).1
  have hz := (zero_of_info infoW).1
  obtain ⟨ad, hA, hcell⟩ := C_cells (k := .u8) (ys := bs) (by rw [hl]; exact hr) (by omega)
  subst hA
  have hadlt : ad.block < w.heap.size := by
    have h0 := hcell 0 (.int .u8 (rd bs 0)) (by simp [nums, rd, hl])
    have := block_lt_of_cell h0
    simpa [Addr.add] using this
  have HAD := Lib.hid hadlt
  have HCE := Lib.hid (show ∀ j : Nat, j < 64 → w.cell? (ad.add j) = some (.int .u8 (rd bs (j : Int))) from fun j hj => hcell j _ (by simp [nums, rd, hl, hj]))
  obtain ⟨Z, hZ⟩ : ∃ Z, (row64 []).toArray = Z := ⟨_, rfl⟩
  rw [hZ] at hz
  have HZ := Lib.hid hZ
  obtain ⟨Z8, hZ8⟩ : ∃ Z, s8 ⟨0, 0, 0, 0, 0, 0, 0, 0⟩ = Z := ⟨_, rfl⟩
  rw [hZ8] at hz8
  have HZ8 := Lib.hid hZ8
  obtain ⟨S0, hS0⟩ : ∃ S, s8 s = S := ⟨_, rfl⟩
  rw [hS0]
  have HS0 := Lib.hid hS0
  have HU8 := Lib.hid Tryd.underlying95
  have HC := Lib.hid hc
  obtain ⟨I32, hi32, hzz⟩ := Option.map_eq_some_iff.1 info32
  simp only [Prod.mk.injEq] at hzz
  have HI := Lib.hid (And.intro hi32 hzz)
  clear hs hl hby hZ hZ8 hS0 hcell hadlt hr hc hi32 hzz
  go_enter Tryd.func56, Tryd.ntmps56
  go_wp2_with fail
  have H2 := Lib.hid (blk_alloc (heap_alloc_new w (.cells S0 95)) (.cells Z8 95))
  have H4 := Lib.hid (show ((w.alloc (.cells S0 95)).alloc (.cells Z8 95)).heap[w.heap.size + 1]? = some (.cells Z8 95 (0, 0)) by
    have := heap_alloc_new (w.alloc (.cells S0 95)) (.cells Z8 95)
    rw [World.size_alloc] at this
    exact this)
  have HB1 := Lib.hid (below_alloc (below_alloc (Below.refl w.heap.size w) (.cells S0 95)) (.cells Z8 95))
  have HSZ1 := Lib.hid (show ((w.alloc (.cells S0 95)).alloc (.cells Z8 95)).heap.size = w.heap.size + 2 by rw [World.size_alloc, World.size_alloc])
  obtain ⟨W1, hW1⟩ : ∃ W, ((w.alloc (.cells S0 95)).alloc (.cells Z8 95)) = W := ⟨_, rfl⟩
  rw [hW1] at H2 H4 HB1 HSZ1 ⊢
  obtain ⟨b2, hb2⟩ : ∃ b, w.heap.size = b := ⟨_, rfl⟩
  rw [hb2] at H2 H4 HB1 HSZ1 ⊢
  obtain ⟨b4, hb4⟩ : ∃ b, b2 + 1 = b := ⟨_, rfl⟩
  rw [hb4] at H4 ⊢
  obtain ⟨b5, hb5⟩ : ∃ b, W1.heap.size = b := ⟨_, rfl⟩
  have HBB := Lib.hid (show w.heap.size = b2 ∧ b4 = b2 + 1 ∧ b5 = b2 + 2 ∧ W1.heap.size = b5 by have := HSZ1.out; omega)
  clear hW1 hb2 hb4 hb5 HSZ1
  go_loopw [5, 6] (fun v i wr => ∃ k : Nat, k ≤ 16 ∧ i = .int .i64 (k : Int) ∧ Hid (Kd.R (Kd.int .u32) 22 wr b5 (fun _ => True) v ((first16 bs).take k) ∧ Below b5 W1 wr)) (fun _ i _ => (16 - intOf i).toNat)
  case atStart => exact ⟨0, by omega, rfl, Lib.hid ⟨by rw [List.take_zero]; exact Kd.R_nil _ _ _ _ _, by rw [← HBB.out.2.2.2]; exact Below.refl _ _⟩⟩
  case round =>
    obtain ⟨k, hk, rfl, H⟩ := hrel
    obtain ⟨hR, hbl⟩ := H.out
    have HR := Lib.hid hR
    have HBL := Lib.hid hbl
    by_cases hlt : k < 16
    · have hce : ∀ j : Nat, j < 64 → wr.cell? (ad.add j) = some (.int .u8 (rd bs (j : Int))) := fun j hj => by
        have h1 := HCE.out j hj
        have h2 : (ad.add j).block = ad.block := by unfold Addr.add; split <;> rfl
        have h3 := HBB.out
        have h4 := HAD.out
        exact ((hbl.cell (p := ad.add j) (by rw [h2]; omega)).trans (HB1.out.cell (p := ad.add j) (by rw [h2]; omega))).trans h1
      have c0 := hce (4 * k) (by omega)
      have c1 := hce (4 * k + 1) (by omega)
      have c2 := hce (4 * k + 2) (by omega)
      have c3 := hce (4 * k + 3) (by omega)
      have hb4 : big4 bs k = (rd bs ((4 * k : Nat) : Int) * 16777216 + rd bs ((4 * k + 1 : Nat) : Int) * 65536 + rd bs ((4 * k + 2 : Nat) : Int) * 256 + rd bs ((4 * k + 3 : Nat) : Int)) % 4294967296 := rfl
      have hbx : ∀ j : Nat, j < 64 → 0 ≤ rd bs (j : Int) ∧ rd bs (j : Int) < 256 := fun j hj => by
        have := HBY.out (rd bs (j : Int)) (by simp [rd, HL.out, hj])
        exact this
      have x0 := hbx (4 * k) (by omega)
      have x1 := hbx (4 * k + 1) (by omega)
      have x2 := hbx (4 * k + 2) (by omega)
      have x3 := hbx (4 * k + 3) (by omega)
      obtain ⟨y0, hy0⟩ : ∃ y, rd bs ((4 * k : Nat) : Int) = y := ⟨_, rfl⟩
      obtain ⟨y1, hy1⟩ : ∃ y, rd bs ((4 * k + 1 : Nat) : Int) = y := ⟨_, rfl⟩
      obtain ⟨y2, hy2⟩ : ∃ y, rd bs ((4 * k + 2 : Nat) : Int) = y := ⟨_, rfl⟩
      obtain ⟨y3, hy3⟩ : ∃ y, rd bs ((4 * k + 3 : Nat) : Int) = y := ⟨_, rfl⟩
      rw [hy0] at c0 x0 hb4
      rw [hy1] at c1 x1 hb4
      rw [hy2] at c2 x2 hb4
      rw [hy3] at c3 x3 hb4
      obtain ⟨j0, hj0⟩ : ∃ j, 4 * k = j := ⟨_, rfl⟩
      obtain ⟨j1, hj1⟩ : ∃ j, 4 * k + 1 = j := ⟨_, rfl⟩
      obtain ⟨j2, hj2⟩ : ∃ j, 4 * k + 2 = j := ⟨_, rfl⟩
      obtain ⟨j3, hj3⟩ : ∃ j, 4 * k + 3 = j := ⟨_, rfl⟩
      rw [hj0] at c0
      rw [hj1] at c1
      rw [hj2] at c2
      rw [hj3] at c3
      have m0 : IntKind.i64.wrap (4 * (k : Int)) = (j0 : Int) := by rw [IntKind.wrap_i64]; omega
      have m1 : IntKind.i64.wrap ((j0 : Int) + 1) = (j1 : Int) := by rw [IntKind.wrap_i64]; omega
      have m2 : IntKind.i64.wrap ((j0 : Int) + 2) = (j2 : Int) := by rw [IntKind.wrap_i64]; omega
      have m3 : IntKind.i64.wrap ((j0 : Int) + 3) = (j3 : Int) := by rw [IntKind.wrap_i64]; omega
      have p0 : (j0 : Int) < 64 := by omega
      have p1 : (j1 : Int) < 64 := by omega
      have p2 : (j2 : Int) < 64 := by omega
      have p3 : (j3 : Int) < 64 := by omega
      obtain ⟨E, hE⟩ : ∃ E, big4 bs k = E := ⟨_, rfl⟩
      rw [hE] at hb4
      obtain ⟨z0, hz0⟩ : ∃ z, y0 * 16777216 = z := ⟨_, rfl⟩
      obtain ⟨z1, hz1⟩ : ∃ z, y1 * 65536 = z := ⟨_, rfl⟩
      obtain ⟨z2, hz2⟩ : ∃ z, y2 * 256 = z := ⟨_, rfl⟩
      obtain ⟨s1, hs1⟩ : ∃ z, z0 + z1 = z := ⟨_, rfl⟩
      obtain ⟨s2, hs2⟩ : ∃ z, s1 + z2 = z := ⟨_, rfl⟩
      have e3 : s2 + y3 = E := by omega
      have q0 : IntKind.u32.wrap y0 = y0 := by rw [IntKind.wrap_u32]; omega
      have q1 : IntKind.u32.wrap y1 = y1 := by rw [IntKind.wrap_u32]; omega
      have q2 : IntKind.u32.wrap y2 = y2 := by rw [IntKind.wrap_u32]; omega
      have q3 : IntKind.u32.wrap y3 = y3 := by rw [IntKind.wrap_u32]; omega
      have r0 : IntKind.u32.wrap z0 = z0 := by rw [IntKind.wrap_u32]; omega
      have r1 : IntKind.u32.wrap z1 = z1 := by rw [IntKind.wrap_u32]; omega
      have r2 : IntKind.u32.wrap z2 = z2 := by rw [IntKind.wrap_u32]; omega
      have r3 : IntKind.u32.wrap s1 = s1 := by rw [IntKind.wrap_u32]; omega
      have r4 : IntKind.u32.wrap s2 = s2 := by rw [IntKind.wrap_u32]; omega
      have r5 : IntKind.u32.wrap E = E := by rw [IntKind.wrap_u32]; omega
      have t0 : y0 % 4294967296 = y0 := by omega
      have t1 : y1 % 4294967296 = y1 := by omega
      have t2 : y2 % 4294967296 = y2 := by omega
      have t3 : y3 % 4294967296 = y3 := by omega
      have u0 : z0 % 4294967296 = z0 := by omega
      have u1 : z1 % 4294967296 = z1 := by omega
      have u2 : z2 % 4294967296 = z2 := by omega
      have u3 : s1 % 4294967296 = s1 := by omega
      have u4 : s2 % 4294967296 = s2 := by omega
      have u5 : E % 4294967296 = E := by omega
      have HE := Lib.hid hE
      have HKEEP := Lib.hid (show ∀ u : World, Below b5 W1 u → u.cell? (ad.add j0) = some (.int .u8 y0) ∧ u.cell? (ad.add j1) = some (.int .u8 y1) ∧ u.cell? (ad.add j2) = some (.int .u8 y2) ∧ u.cell? (ad.add j3) = some (.int .u8 y3) from by
        intro u hu
        have hx : ∀ j, j < 64 → u.cell? (ad.add j) = some (.int .u8 (rd bs (j : Int))) := fun j hj => by
          have h1 := HCE.out j hj
          have h2 : (ad.add j).block = ad.block := by unfold Addr.add; split <;> rfl
          have h3 := HBB.out
          have h4 := HAD.out
          exact ((hu.cell (p := ad.add j) (by rw [h2]; omega)).trans (HB1.out.cell (p := ad.add j) (by rw [h2]; omega))).trans h1
        rw [← hy0, ← hy1, ← hy2, ← hy3, hj1, hj2, hj3, hj0]
        exact ⟨hx j0 (by omega), hx j1 (by omega), hx j2 (by omega), hx j3 (by omega)⟩)
      have HBD := Lib.hid (below_drew HBL.out)
      have HRD := Lib.hid (Kd.R_drew HR.out)
      have HBA := Lib.hid (HBD.out.alloc (show b5 ≤ wr.drew.heap.size from by have := HBB.out; have := HBL.out.size; show b5 ≤ wr.heap.size; omega) (.cells #[.int .u32 E] 22))
      have HLE := Lib.hid (show b5 ≤ wr.drew.heap.size from by have := HBB.out; have := HBL.out.size; show b5 ≤ wr.heap.size; omega)
      have HLN := Lib.hid (show (((first16 bs).take k).length + 1) * 4 ≤ 140737488355328 by simp [first16]; omega)
      have HSTEP := Lib.hid (first16_get bs k hlt)
      rw [hE] at HSTEP
      obtain ⟨L, hL⟩ : ∃ L, (first16 bs).take k = L := ⟨_, rfl⟩
      rw [hL] at HRD HLN HSTEP
      clear hce hbx hb4 hy0 hy1 hy2 hy3 hj0 hj1 hj2 hj3 hR hbl H hE HR hL
      go_wp2_with fail
      go_region_held3 (fun u => u.cell? (ad.add j0) = some (.int .u8 y0) ∧ u.cell? (ad.add j1) = some (.int .u8 y1) ∧ u.cell? (ad.add j2) = some (.int .u8 y2) ∧ u.cell? (ad.add j3) = some (.int .u8 y3)) (first | exact HKEEP.out _ HBX.out | exact HKEEP.out _ HBD.out | exact HKEEP.out _ HBA.out) ((refine Kd.R_append_step (Kd.int .u32) (w0 := W1) b5 (by rfl) (.tmp 22) (.tmp 56) 107 22 (.int .u32 0) 4 (by rfl) Tryd.underlying107 info32 rfl (by decide) (by decide) _ L E _ (fun _ => True) (fun _ => False) (by rfl) (by rfl) rfl (fun _ hk => hk.elim) (fun _ _ => trivial) HRD.out HBD.out HLE.out HLN.out ?_; intro v1 w1 ho hb hg hat; have HBX := Lib.hid hb; have HRX := Lib.hid ho; clear ho hb hg hat))
      clear m0 m1 m2 m3 q0 q1 q2 q3 r0 r1 r2 r3 r4 r5 t0 t1 t2 t3 u0 u1 u2 u3 u4 u5 c0 c1 c2 c3
      go_wp2
      go_roundw
      case rel => exact ⟨k + 1, by omega, by go_num, Lib.hid ⟨by rw [HSTEP.out]; exact HRX.out, HBX.out⟩⟩
      case measure => simp only [intOf]; omega
    · obtain rfl : k = 16 := by omega
      have HR0 := Lib.hid (show Kd.R (Kd.int .u32) 22 wr b5 (fun _ => True) _ (ext 0 (first16 bs)) from (show (first16 bs).take 16 = ext 0 (first16 bs) from List.take_of_length_le (by simp [first16])) ▸ hR)
      clear hR hbl H HR hk hlt
      rw [show ((16 : Nat) : Int) = 16 from rfl]
      go_wp2_with fail
      go_loopw [5, 7] (fun v i wx => ∃ n : Nat, n ≤ 48 ∧ i = .int .i64 ((16 + n : Nat) : Int) ∧ Hid (Kd.R (Kd.int .u32) 22 wx b5 (fun _ => True) v (ext n (first16 bs)) ∧ Below b5 W1 wx)) (fun _ i _ => (64 - intOf i).toNat)
      case atStart => exact ⟨0, by omega, rfl, Lib.hid ⟨HR0.out, HBL.out⟩⟩
      case round =>
        obtain ⟨n, hn, rfl, H⟩ := hrel
        obtain ⟨hR, hbl⟩ := H.out
        have HBQ := Lib.hid hbl
        obtain ⟨t, ht⟩ : ∃ t, 16 + n = t := ⟨_, rfl⟩
        have ht1 : 16 ≤ t := by omega
        have ht2 : t ≤ 64 := by omega
        rw [ht]
        obtain ⟨L, hL⟩ : ∃ L, ext n (first16 bs) = L := ⟨_, rfl⟩
        have hLl : L.length = t := by rw [← hL, ext_len, ← ht]; simp [first16]
        have hLw : ∀ x ∈ L, Wd x := by rw [← hL]; exact ext_wd n _ (first16_wd bs)
        rw [hL] at hR
        obtain ⟨g, cap, hv, hg1, hg2, -⟩ := Kd.R_form hR (by omega)
        rw [hLl] at hv
        by_cases hlt : t < 64
        · subst hv
          have HRL := Lib.hid (show Kd.R (Kd.int .u32) 22 wr b5 (fun _ => True) (.slice (some ⟨g, 0, none⟩) t cap) L from hR)
          have g15 := R_at hR (j := t - 15) (by omega)
          have g2 := R_at hR (j := t - 2) (by omega)
          have g16 := R_at hR (j := t - 16) (by omega)
          have g7 := R_at hR (j := t - 7) (by omega)
          have hx15 := rd_wd hLw ((t - 15 : Nat) : Int)
          have hx2 := rd_wd hLw ((t - 2 : Nat) : Int)
          have hwx := wAt_of (L := L) hLl rfl rfl rfl rfl
          obtain ⟨x, hx⟩ : ∃ x, rd L ((t - 15 : Nat) : Int) = x := ⟨_, rfl⟩
          obtain ⟨y, hy⟩ : ∃ x, rd L ((t - 2 : Nat) : Int) = x := ⟨_, rfl⟩
          obtain ⟨p, hp⟩ : ∃ x, rd L ((t - 16 : Nat) : Int) = x := ⟨_, rfl⟩
          obtain ⟨q, hq⟩ : ∃ x, rd L ((t - 7 : Nat) : Int) = x := ⟨_, rfl⟩
          rw [hx] at g15 hx15 hwx
          rw [hy] at g2 hx2 hwx
          rw [hp] at g16 hwx
          rw [hq] at g7 hwx
          obtain ⟨j15, hj15⟩ : ∃ j, t - 15 = j := ⟨_, rfl⟩
          obtain ⟨j2, hj2⟩ : ∃ j, t - 2 = j := ⟨_, rfl⟩
          obtain ⟨j16, hj16⟩ : ∃ j, t - 16 = j := ⟨_, rfl⟩
          obtain ⟨j7, hj7⟩ : ∃ j, t - 7 = j := ⟨_, rfl⟩
          rw [hj15] at g15
          rw [hj2] at g2
          rw [hj16] at g16
          rw [hj7] at g7
          have v15 : IntKind.i64.wrap ((t : Int) - 15) = (j15 : Int) := by rw [IntKind.wrap_i64]; omega
          have v2 : IntKind.i64.wrap ((t : Int) - 2) = (j2 : Int) := by rw [IntKind.wrap_i64]; omega
          have v16 : IntKind.i64.wrap ((t : Int) - 16) = (j16 : Int) := by rw [IntKind.wrap_i64]; omega
          have v7 : IntKind.i64.wrap ((t : Int) - 7) = (j7 : Int) := by rw [IntKind.wrap_i64]; omega
          have w15 : (t : Int) - 15 = (j15 : Int) := by omega
          have w2 : (t : Int) - 2 = (j2 : Int) := by omega
          have w16 : (t : Int) - 16 = (j16 : Int) := by omega
          have w7 : (t : Int) - 7 = (j7 : Int) := by omega
          have b15 : (j15 : Int) < (t : Int) := by omega
          have b2' : (j2 : Int) < (t : Int) := by omega
          have b16 : (j16 : Int) < (t : Int) := by omega
          have b7 : (j7 : Int) < (t : Int) := by omega
          have n16 : j16 < t := by omega
          have vv16 : IntKind.i64.wrap (j16 : Int) = (j16 : Int) := by rw [IntKind.wrap_i64]; omega
          have vv7 : IntKind.i64.wrap (j7 : Int) = (j7 : Int) := by rw [IntKind.wrap_i64]; omega
          have n7 : j7 < t := by omega
          have z16 : (0 : Int) ≤ (j16 : Int) := by omega
          have z7 : (0 : Int) ≤ (j7 : Int) := by omega
          have tr16 : (j16 < t) = True := eq_true n16
          have tr7 : (j7 < t) = True := eq_true n7
          obtain ⟨X7, hX7⟩ : ∃ z, rrI x 7 = z := ⟨_, rfl⟩
          obtain ⟨X18, hX18⟩ : ∃ z, rrI x 18 = z := ⟨_, rfl⟩
          obtain ⟨Y17, hY17⟩ : ∃ z, rrI y 17 = z := ⟨_, rfl⟩
          obtain ⟨Y19, hY19⟩ : ∃ z, rrI y 19 = z := ⟨_, rfl⟩
          have HR7 := Lib.hid (show ∀ W, Calls Tryd.prog 64 #[.int .u32 x, .int .i64 7] W fun e w' => e = .returned (.int .u32 X7) ∧ w' = W from fun W => by rw [← hX7]; exact right_calls x 7 W hx15 (by decide))
          have HR18 := Lib.hid (show ∀ W, Calls Tryd.prog 64 #[.int .u32 x, .int .i64 18] W fun e w' => e = .returned (.int .u32 X18) ∧ w' = W from fun W => by rw [← hX18]; exact right_calls x 18 W hx15 (by decide))
          have HR17 := Lib.hid (show ∀ W, Calls Tryd.prog 64 #[.int .u32 y, .int .i64 17] W fun e w' => e = .returned (.int .u32 Y17) ∧ w' = W from fun W => by rw [← hY17]; exact right_calls y 17 W hx2 (by decide))
          have HR19 := Lib.hid (show ∀ W, Calls Tryd.prog 64 #[.int .u32 y, .int .i64 19] W fun e w' => e = .returned (.int .u32 Y19) ∧ w' = W from fun W => by rw [← hY19]; exact right_calls y 19 W hx2 (by decide))
          obtain ⟨x8, hx8⟩ : ∃ z, x / 8 = z := ⟨_, rfl⟩
          obtain ⟨y10, hy10⟩ : ∃ z, y / 1024 = z := ⟨_, rfl⟩
          obtain ⟨P1, hP1⟩ : ∃ z, Go.bits .xor .u32 X7 X18 = z := ⟨_, rfl⟩
          obtain ⟨P2, hP2⟩ : ∃ z, Go.bits .xor .u32 Y17 Y19 = z := ⟨_, rfl⟩
          obtain ⟨S1, hS1⟩ : ∃ z, Go.bits .xor .u32 P1 x8 = z := ⟨_, rfl⟩
          obtain ⟨S2, hS2⟩ : ∃ z, Go.bits .xor .u32 P2 y10 = z := ⟨_, rfl⟩
          have hsg0 : sg0 x = S1 := by rw [← hS1, ← hP1, ← hx8, ← hX7, ← hX18]; rfl
          have hsg1 : sg1 y = S2 := by rw [← hS2, ← hP2, ← hy10, ← hY17, ← hY19]; rfl
          rw [hsg0, hsg1] at hwx
          obtain ⟨q1, hq1⟩ : ∃ z, (p + S1) % 4294967296 = z := ⟨_, rfl⟩
          obtain ⟨q2, hq2⟩ : ∃ z, (q1 + q) % 4294967296 = z := ⟨_, rfl⟩
          obtain ⟨E, hE⟩ : ∃ z, (q2 + S2) % 4294967296 = z := ⟨_, rfl⟩
          have hEE : wAt L L.length = E := by rw [hwx, ← hE, ← hq2, ← hq1]; rfl
          have k1 : IntKind.u32.wrap (p + S1) = q1 := by rw [IntKind.wrap_u32]; exact hq1
          have k2 : IntKind.u32.wrap (q1 + q) = q2 := by rw [IntKind.wrap_u32]; exact hq2
          have k3 : IntKind.u32.wrap (q2 + S2) = E := by rw [IntKind.wrap_u32]; exact hE
          have xt : x.tdiv 8 = x8 := by rw [Int.tdiv_eq_ediv_of_nonneg hx15.1, hx8]
          have yt : y.tdiv 1024 = y10 := by rw [Int.tdiv_eq_ediv_of_nonneg hx2.1, hy10]
          have x8w : IntKind.u32.wrap x8 = x8 := by rw [IntKind.wrap_u32]; have := hx15.1; have := hx15.2; omega
          have y10w : IntKind.u32.wrap y10 = y10 := by rw [IntKind.wrap_u32]; have := hx2.1; have := hx2.2; omega
          have HEE := Lib.hid (show ext (n + 1) (first16 bs) = L ++ [E] by rw [ext_step, hL, hEE])
          have HLN := Lib.hid (show (t + 1) * 4 ≤ 140737488355328 ∧ t + 1 ≤ 1000000 by omega)
          have HNN := Lib.hid (show j16 < t ∧ j7 < t by omega)
          have HXY := Lib.hid (And.intro hx15 hx2)
          have HWX := Lib.hid hwx
          have HLL := Lib.hid hLl
          have HLH := Lib.hid hL
          have HNT := Lib.hid ht
          clear hR hbl H hL hLl hLw hx15 hx2 hwx hx hy hp hq hj15 hj2 hj16 hj7 hX7 hX18 hY17 hY19 hsg0 hsg1 hEE
          go_wp2_with fail
          go_quiet (fail)
          obtain ⟨wq, hwq⟩ : ∃ wq, wr.drewN nq = wq := ⟨_, rfl⟩
          have hsz : b5 ≤ wr.heap.size := by have := HBQ.out.size; have := HBB.out; omega
          have HQ := Lib.hid (show Kd.R (Kd.int .u32) 22 wq.drew b5 (fun _ => True) (.slice (some ⟨g, 0, none⟩) t cap) L ∧ Below b5 W1 wq.drew ∧ b5 ≤ wq.drew.heap.size ∧ wq.drew.cell? ⟨g, j16, none⟩ = some (.int .u32 p) ∧ wq.drew.cell? ⟨g, j7, none⟩ = some (.int .u32 q) ∧ (wq.drew.alloc (.cells #[.int .u32 E] 22)).cell? ⟨g, j16, none⟩ = some (.int .u32 p) ∧ (wq.drew.alloc (.cells #[.int .u32 E] 22)).cell? ⟨g, j7, none⟩ = some (.int .u32 q) by
            rw [← hwq]
            have hgw : g < ((wr.drewN nq).drew).heap.size := hg2
            have hr := Kd.R_drew (Kd.R_drewN HRL.out nq)
            have hbb : Below ((wr.drewN nq).drew).heap.size ((wr.drewN nq).drew) (((wr.drewN nq).drew).alloc (.cells #[.int .u32 E] 22)) := below_alloc (Below.refl _ _) _
            refine ⟨hr, below_drew (pw_below_drewN HBQ.out nq), hsz, g16, g7, (hbb.cell (p := ⟨g, j16, none⟩) hgw).trans g16, (hbb.cell (p := ⟨g, j7, none⟩) hgw).trans g7⟩)
          rw [hwq]
          have hrt := HQ.out.1
          clear g15 g2 g16 g7 v15 v2 w15 w2 b15 b2' hwq hsz hrt
          go_wp2_with fail
          go_region_held3 (fun u => u.cell? ⟨g, j16, none⟩ = some (.int .u32 p) ∧ u.cell? ⟨g, j7, none⟩ = some (.int .u32 q)) (first | exact ⟨HQ.out.2.2.2.1, HQ.out.2.2.2.2.1⟩ | exact ⟨HQ.out.2.2.2.2.2.1, HQ.out.2.2.2.2.2.2⟩ | exact ⟨(HKE.out _ HNN.out.1).trans HQ.out.2.2.2.1, (HKE.out _ HNN.out.2).trans HQ.out.2.2.2.2.1⟩) (first | (go_at_call 64; (with_reducible refine (HR7.out _).mono ?_); rintro e w9 ⟨rfl, rfl⟩) | (go_at_call 64; (with_reducible refine (HR18.out _).mono ?_); rintro e w9 ⟨rfl, rfl⟩) | (go_at_call 64; (with_reducible refine (HR17.out _).mono ?_); rintro e w9 ⟨rfl, rfl⟩) | (go_at_call 64; (with_reducible refine (HR19.out _).mono ?_); rintro e w9 ⟨rfl, rfl⟩) | ((refine R_push_keep (k := .u32) (w0 := W1) b5 (by rfl) (.tmp 72) (.tmp 102) 107 22 I32 (.int .u32 0) 4 (by rfl) Tryd.underlying107 HI.out.1 HI.out.2.1 HI.out.2.2.1 HI.out.2.2.2 rfl g t cap L E (by rfl) (by rfl) HQ.out.1 HQ.out.2.1 HQ.out.2.2.1 HLN.out.1 HLN.out.2 ?_; intro v1 w1 ho hb hke; have HBX := Lib.hid hb; have HRX := Lib.hid ho; have HKE := Lib.hid hke; clear ho hb hke)))
          clear v16 w16 v7 w7 b16 b7 n16 vv16 vv7 n7 z16 z7 tr16 tr7 k1 k2 k3 xt yt x8w y10w hq1 hq2 hE hP1 hP2 hS1 hS2 hx8 hy10
          go_wp2
          go_roundw
          case rel => exact ⟨n + 1, by have := HNT.out; omega, congrArg (Value.int .i64) (by have := HNT.out; omega), Lib.hid ⟨by rw [HEE.out]; exact HRX.out, HBX.out⟩⟩
          case measure =>
            show (64 - ((t : Int) + 1)).toNat < (64 - (t : Int)).toNat
            omega
        · obtain rfl : t = 64 := by omega
          have hn48 : n = 48 := by omega
          subst hn48
          obtain ⟨OG, hOG⟩ : ∃ o, wr.heap[g]? = o := ⟨_, rfl⟩
          subst hv
          have hL2 : wds bs = L := hL
          have HLIST := Lib.hid (show ∀ u : World, u.heap[g]? = OG → ∀ j : Nat, j < 64 → u.cell? ⟨g, j, none⟩ = some (.int .u32 (rd L (j : Int))) from fun u hu j hj => by
            have h1 := R_at hR (j := j) (by omega)
            rw [World.cell?_of_block (w := wr) (a := ⟨g, j, none⟩) (hu.trans hOG.symm)]
            exact h1)
          have hsz5 := HBB.out
          have hszw := HBQ.out.size
          have HBW := Lib.hid (HB1.out.trans (Below.mono HBQ.out (show b2 ≤ b5 by omega)))
          have H2q := Lib.hid ((HBQ.out.block b2 (by omega)).trans H2.out)
          have H4q := Lib.hid ((HBQ.out.block b4 (by omega)).trans H4.out)
          have HG := Lib.hid (show b5 ≤ g ∧ g < wr.heap.size ∧ b5 ≤ wr.heap.size from ⟨hg1, hg2, by omega⟩)
          have HOG := Lib.hid hOG
          have HLL := Lib.hid (And.intro hL2 hLl)
          have hws : ∀ x ∈ L, Wd x := hLw
          clear hR hbl H hL hL2 hLl hLw hOG hg1 hg2 hn ht ht1 ht2 hlt HR0 hsz5 hszw
          rw [show ((64 : Nat) : Int) = 64 from rfl]
          go_wp2_with fail
          refine (K_calls _).mono ?_
          rintro e w1 ⟨rfl, hb1⟩
          obtain ⟨KA, hKA⟩ : ∃ K, (nums .u32 kT).toArray = K := ⟨_, rfl⟩
          rw [hKA]
          have HKA := Lib.hid hKA
          have HSK := Lib.hid (show (Tryd.prog.info? 109).map (·.size) = some KA.size ∧ Z.size = KA.size ∧ KA.all (·.oneCell') = true by
            rw [← hKA, ← HZ.out, (zero_of_info infoW).2]
            refine ⟨by simp [nums, kT], by simp [nums, kT, row64_len], all_oneCell_toArray (nums_one .u32 kT)⟩)
          have H88 := Lib.hid (And.intro (show (Tryd.prog.info? 95).map (·.size) = some S0.size by rw [← HS0.out]; exact s8_size s) (And.intro (show Z8.size = S0.size by rw [← HS0.out, ← HZ8.out]; rfl) (show S0.all (·.oneCell') = true by rw [← HS0.out]; exact s8_one s)))
          have H2a := Lib.hid ((hb1.block b2 (blk_lt H2q.out)).trans H2q.out)
          have H4a := Lib.hid ((hb1.block b4 (blk_lt H4q.out)).trans H4q.out)
          have HGa := Lib.hid ((hb1.block g HG.out.2.1).trans HOG.out)
          have HWa := Lib.hid (HBW.out.trans (Below.mono hb1 (show b2 ≤ wr.heap.size by have := HG.out; have := HBB.out; omega)))
          have HSa := Lib.hid (show g < w1.heap.size ∧ b5 ≤ w1.heap.size by have := HG.out; have := hb1.size; omega)
          have HA := Lib.hid (blk_alloc H2a.out (.cells KA 109))
          clear hb1 hKA
          go_wp2_with (first | ((with_reducible show wpList _ _ _ (Oper.mk _ (Op.store 109 _ _) _ _ _ _ :: _) _ _); (refine wpl_store_new rfl 109 (.tmp 10) (.tmp 104) rfl Z KA rfl rfl HSK.out.1 HSK.out.2.1 HSK.out.2.2 ?_)) | ((with_reducible show wpList _ _ _ (Oper.mk _ (Op.load _ _) _ _ _ _ :: _) _ _); (refine wpList_load_row rfl 95 (.tmp 2) rfl b2 rfl 95 S0 (0, 0) _ HA.out HU8.out rfl H88.out.1 ?_)) | ((with_reducible show wpList _ _ _ (Oper.mk _ (Op.store 95 _ _) _ _ _ _ :: _) _ _); (refine wpl_store_new rfl 95 (.tmp 11) (.tmp 105) rfl Z8 S0 (by rw [World.size_alloc]; rfl) rfl H88.out.1 H88.out.2.1 H88.out.2.2 ?_)))
          have HKc := Lib.hid (blk_alloc (heap_alloc_new w1 (.cells KA 109)) (.cells S0 95))
          have HSc := Lib.hid (show ((w1.alloc (.cells KA 109)).alloc (.cells S0 95)).heap[w1.heap.size + 1]? = some (.cells S0 95 (0, 0)) by
            have := heap_alloc_new (w1.alloc (.cells KA 109)) (.cells S0 95)
            rw [World.size_alloc] at this
            exact this)
          have H2c := Lib.hid (blk_alloc (blk_alloc H2a.out (.cells KA 109)) (.cells S0 95))
          have H4c := Lib.hid (blk_alloc (blk_alloc H4a.out (.cells KA 109)) (.cells S0 95))
          have HGc := Lib.hid (show ((w1.alloc (.cells KA 109)).alloc (.cells S0 95)).heap[g]? = OG by
            have hg1 : g < (w1.alloc (.cells KA 109)).heap.size := by
              rw [World.size_alloc]
              have := HSa.out
              omega
            exact ((below_alloc (Below.refl _ (w1.alloc (.cells KA 109))) (.cells S0 95)).block g hg1).trans (((below_alloc (Below.refl _ w1) (.cells KA 109)).block g HSa.out.1).trans HGa.out))
          have HBc := Lib.hid ((HWa.out.alloc (by have := HSa.out; have := HBB.out; omega) (.cells KA 109)).alloc (by rw [World.size_alloc]; have := HSa.out; have := HBB.out; omega) (.cells S0 95))
          obtain ⟨W2, hW2⟩ : ∃ W, ((w1.alloc (.cells KA 109)).alloc (.cells S0 95)) = W := ⟨_, rfl⟩
          rw [hW2] at HKc HSc H2c H4c HGc HBc ⊢
          obtain ⟨b10, hb10⟩ : ∃ b, w1.heap.size = b := ⟨_, rfl⟩
          have hsa := HSa.out
          rw [hb10] at HKc HSc hsa ⊢
          obtain ⟨b11, hb11⟩ : ∃ b, b10 + 1 = b := ⟨_, rfl⟩
          rw [hb11] at HSc ⊢
          have HORD := Lib.hid (show b2 < b4 ∧ b4 < b5 ∧ b5 ≤ g ∧ g < b10 ∧ b10 < b11 by have := HG.out; have := HBB.out; omega)
          have HWS := Lib.hid hws
          clear hW2 hb10 hb11 hsa HA hz hz8 hws
          go_wp2_with fail
          go_loopw [12] (fun i wx => ∃ k : Nat, k ≤ 64 ∧ i = .int .i64 (k : Int) ∧ Hid (wx.heap[b11]? = some (.cells (s8 (rounds L k s)) 95 (0, 0)) ∧ wx.heap[b10]? = some (.cells KA 109 (0, 0)) ∧ wx.heap[g]? = OG ∧ wx.heap[b2]? = some (.cells S0 95 (0, 0)) ∧ wx.heap[b4]? = some (.cells Z8 95 (0, 0)) ∧ Below b2 w wx)) (fun i _ => (64 - intOf i).toNat)
          case atStart => exact ⟨0, by omega, rfl, Lib.hid ⟨by rw [HSc.out, ← HS0.out]; rfl, HKc.out, HGc.out, H2c.out, H4c.out, HBc.out⟩⟩
          case round =>
            obtain ⟨k, hk, rfl, H⟩ := hrel
            obtain ⟨h6, h5, hgg, h2, h4, hbl⟩ := H.out
            by_cases hlt : k < 64
            · obtain ⟨st, hst⟩ : ∃ st, rounds L k s = st := ⟨_, rfl⟩
              have hwd : st.wd := by rw [← hst]; exact rounds_wd L HS.out k
              rw [hst] at h6
              have HST := Lib.hid hst
              obtain ⟨sa, sb, sc, sd, se, sf, sg, sh⟩ := st
              obtain ⟨kk, hkk⟩ : ∃ x, rd kT (k : Int) = x := ⟨_, rfl⟩
              obtain ⟨wk, hwk⟩ : ∃ x, rd L (k : Int) = x := ⟨_, rfl⟩
              have HKW := Lib.hid (And.intro hkk hwk)
              have hall : ∀ wx : World, wx.heap[b11]? = some (.cells (s8 ⟨sa, sb, sc, sd, se, sf, sg, sh⟩) 95 (0, 0)) → wx.heap[b10]? = some (.cells KA 109 (0, 0)) → wx.heap[g]? = OG → (wx.cell? ⟨b11, 0, none⟩ = some (.int .u32 sa) ∧ wx.cell? ⟨b11, 1, none⟩ = some (.int .u32 sb) ∧ wx.cell? ⟨b11, 2, none⟩ = some (.int .u32 sc) ∧ wx.cell? ⟨b11, 3, none⟩ = some (.int .u32 sd) ∧ wx.cell? ⟨b11, 4, none⟩ = some (.int .u32 se) ∧ wx.cell? ⟨b11, 5, none⟩ = some (.int .u32 sf) ∧ wx.cell? ⟨b11, 6, none⟩ = some (.int .u32 sg) ∧ wx.cell? ⟨b11, 7, none⟩ = some (.int .u32 sh)) ∧ wx.cell? ⟨b10, k, none⟩ = some (.int .u32 kk) ∧ wx.cell? ⟨g, k, none⟩ = some (.int .u32 wk) := by
                intro wx h1 h2 h3
                refine ⟨⟨(blk_cell h1 0).trans rfl, (blk_cell h1 1).trans rfl, (blk_cell h1 2).trans rfl, (blk_cell h1 3).trans rfl, (blk_cell h1 4).trans rfl, (blk_cell h1 5).trans rfl, (blk_cell h1 6).trans rfl, (blk_cell h1 7).trans rfl⟩, ?_, ?_⟩
                · rw [← hkk]
                  refine (blk_cell h2 k).trans ?_
                  rw [← HKA.out]
                  simp [nums, rd, show kT.length = 64 from rfl, hlt]
                · rw [← hwk]
                  exact HLIST.out wx h3 k hlt
              have HALL := Lib.hid hall
              have i0 : (0 : Int) ≤ (k : Int) := by omega
              have i1 : (k : Int) < 64 := by omega
              obtain ⟨ne, hne⟩ : ∃ x, 4294967295 - se = x := ⟨_, rfl⟩
              have se0 : 0 ≤ se := hwd.2.1.1
              have se1 : se < 4294967296 := hwd.2.1.2
              have hne2 : (4294967295 - se) % 4294967296 = ne := by omega
              have hne3 : ne % 4294967296 = ne := by omega
              have hne4 : IntKind.u32.wrap ne = ne := by rw [IntKind.wrap_u32]; exact hne3
              obtain ⟨C1, hC1⟩ : ∃ x, chO se sf sg = x := ⟨_, rfl⟩
              have hch : Go.bits .xor .u32 (Go.bits .and .u32 se sf) (Go.bits .and .u32 ne sg) = C1 := by rw [← hC1, ← hne]; rfl
              obtain ⟨M1, hM1⟩ : ∃ x, maj sa sb sc = x := ⟨_, rfl⟩
              have HMJ := Lib.hid (show Go.bits .xor .u32 (Go.bits .xor .u32 (Go.bits .and .u32 sa sb) (Go.bits .and .u32 sa sc)) (Go.bits .and .u32 sb sc) = M1 by rw [← hM1]; rfl)
              have HCM := Lib.hid (And.intro hC1 hM1)
              obtain ⟨E6, hE6⟩ : ∃ x, rrI se 6 = x := ⟨_, rfl⟩
              obtain ⟨E11, hE11⟩ : ∃ x, rrI se 11 = x := ⟨_, rfl⟩
              obtain ⟨E25, hE25⟩ : ∃ x, rrI se 25 = x := ⟨_, rfl⟩
              obtain ⟨A2, hA2⟩ : ∃ x, rrI sa 2 = x := ⟨_, rfl⟩
              obtain ⟨A13, hA13⟩ : ∃ x, rrI sa 13 = x := ⟨_, rfl⟩
              obtain ⟨A22, hA22⟩ : ∃ x, rrI sa 22 = x := ⟨_, rfl⟩
              have HC6 := Lib.hid (show ∀ (W : World) (N : Nat), Calls Tryd.prog 64 #[.int .u32 se, .int .i64 6] (W.drewN N) fun e w' => e = .returned (.int .u32 E6) ∧ ∃ M, w' = W.drewN M from fun W N => (right_calls se 6 (W.drewN N) hwd.2.1 (by decide)).mono fun e w' ⟨he, hw⟩ => ⟨by rw [he, hE6], N, hw⟩)
              have HC11 := Lib.hid (show ∀ (W : World) (N : Nat), Calls Tryd.prog 64 #[.int .u32 se, .int .i64 11] (W.drewN N) fun e w' => e = .returned (.int .u32 E11) ∧ ∃ M, w' = W.drewN M from fun W N => (right_calls se 11 (W.drewN N) hwd.2.1 (by decide)).mono fun e w' ⟨he, hw⟩ => ⟨by rw [he, hE11], N, hw⟩)
              have HC25 := Lib.hid (show ∀ (W : World) (N : Nat), Calls Tryd.prog 64 #[.int .u32 se, .int .i64 25] (W.drewN N) fun e w' => e = .returned (.int .u32 E25) ∧ ∃ M, w' = W.drewN M from fun W N => (right_calls se 25 (W.drewN N) hwd.2.1 (by decide)).mono fun e w' ⟨he, hw⟩ => ⟨by rw [he, hE25], N, hw⟩)
              have HC2 := Lib.hid (show ∀ (W : World) (N : Nat), Calls Tryd.prog 64 #[.int .u32 sa, .int .i64 2] (W.drewN N) fun e w' => e = .returned (.int .u32 A2) ∧ ∃ M, w' = W.drewN M from fun W N => (right_calls sa 2 (W.drewN N) hwd.1.1 (by decide)).mono fun e w' ⟨he, hw⟩ => ⟨by rw [he, hA2], N, hw⟩)
              have HC13 := Lib.hid (show ∀ (W : World) (N : Nat), Calls Tryd.prog 64 #[.int .u32 sa, .int .i64 13] (W.drewN N) fun e w' => e = .returned (.int .u32 A13) ∧ ∃ M, w' = W.drewN M from fun W N => (right_calls sa 13 (W.drewN N) hwd.1.1 (by decide)).mono fun e w' ⟨he, hw⟩ => ⟨by rw [he, hA13], N, hw⟩)
              have HC22 := Lib.hid (show ∀ (W : World) (N : Nat), Calls Tryd.prog 64 #[.int .u32 sa, .int .i64 22] (W.drewN N) fun e w' => e = .returned (.int .u32 A22) ∧ ∃ M, w' = W.drewN M from fun W N => (right_calls sa 22 (W.drewN N) hwd.1.1 (by decide)).mono fun e w' ⟨he, hw⟩ => ⟨by rw [he, hA22], N, hw⟩)
              obtain ⟨U1, hU1⟩ : ∃ x, Go.bits .xor .u32 E6 E11 = x := ⟨_, rfl⟩
              obtain ⟨T1, hT1⟩ : ∃ x, Go.bits .xor .u32 U1 E25 = x := ⟨_, rfl⟩
              obtain ⟨U2, hU2⟩ : ∃ x, Go.bits .xor .u32 A2 A13 = x := ⟨_, rfl⟩
              obtain ⟨T2, hT2⟩ : ∃ x, Go.bits .xor .u32 U2 A22 = x := ⟨_, rfl⟩
              have HU2 := Lib.hid (And.intro hU2 hT2)
              have HTT := Lib.hid (show x3 (rrI se 6) (rrI se 11) (rrI se 25) = T1 ∧ x3 (rrI sa 2) (rrI sa 13) (rrI sa 22) = T2 from ⟨by rw [hE6, hE11, hE25, ← hT1, ← hU1]; rfl, by rw [hA2, hA13, hA22, ← hT2, ← hU2]; rfl⟩)
              have HWX := Lib.hid (And.intro h6 (And.intro h5 (And.intro hgg (And.intro h2 (And.intro h4 hbl)))))
              obtain ⟨⟨c0, c1, c2, c3, c4, c5, c6, c7⟩, ck, cw⟩ := hall wr h6 h5 hgg
              have HWD2 := Lib.hid hwd
              clear h6 h5 hgg h2 h4 hbl H hst hwd hkk hwk hall hC1 hM1 hE6 hE11 hE25 hA2 hA13 hA22 hU2 hT2
              go_wp2_with fail
              go_quiet (fail)
              obtain ⟨wp, hwp⟩ : ∃ wx, wr.drewN nq = wx := ⟨_, rfl⟩
              have HP := Lib.hid (show wp.heap[b11]? = some (.cells (s8 ⟨sa, sb, sc, sd, se, sf, sg, sh⟩) 95 (0, 0)) ∧ wp.heap[b10]? = some (.cells KA 109 (0, 0)) ∧ wp.heap[g]? = OG ∧ wp.heap[b2]? = some (.cells S0 95 (0, 0)) ∧ wp.heap[b4]? = some (.cells Z8 95 (0, 0)) ∧ Below b2 w wp by
                rw [← hwp]
                exact ⟨HWX.out.1, HWX.out.2.1, HWX.out.2.2.1, HWX.out.2.2.2.1, HWX.out.2.2.2.2.1, pw_below_drewN HWX.out.2.2.2.2.2 nq⟩)
              rw [hwp]
              clear hwp c0 c1 c2 c3 c4 c5 c6 c7 ck cw HWX
              obtain ⟨⟨c0, c1, c2, c3, c4, c5, c6, c7⟩, ck, cw⟩ := HALL.out wp HP.out.1 HP.out.2.1 HP.out.2.2.1
              go_wp2_with fail
              go_quiet ((first | (go_at_call 64; with_reducible exact HC6.out _ _) | (go_at_call 64; with_reducible exact HC11.out _ _) | (go_at_call 64; with_reducible exact HC25.out _ _)))
              clear hne hne2 hne3 hne4 hch hU1 hT1 c0 c1 c2 c3 c4 c5 c6 c7 ck cw
              obtain ⟨P1, hP1⟩ : ∃ x, ((sh + T1 + C1 + kk) % 4294967296 + wk) % 4294967296 = x := ⟨_, rfl⟩
              rw [hP1]
              have HP1 := Lib.hid hP1
              clear hP1
              obtain ⟨wq, hwq⟩ : ∃ wx, wp.drewN nq = wx := ⟨_, rfl⟩
              have HQ := Lib.hid (show wq.heap[b11]? = some (.cells (s8 ⟨sa, sb, sc, sd, se, sf, sg, sh⟩) 95 (0, 0)) ∧ wq.heap[b10]? = some (.cells KA 109 (0, 0)) ∧ wq.heap[g]? = OG ∧ wq.heap[b2]? = some (.cells S0 95 (0, 0)) ∧ wq.heap[b4]? = some (.cells Z8 95 (0, 0)) ∧ Below b2 w wq by
                rw [← hwq]
                exact ⟨HP.out.1, HP.out.2.1, HP.out.2.2.1, HP.out.2.2.2.1, HP.out.2.2.2.2.1, pw_below_drewN HP.out.2.2.2.2.2 nq⟩)
              rw [hwq]
              clear hwq HP
              obtain ⟨⟨c0, c1, c2, c3, c4, c5, c6, c7⟩, ck, cw⟩ := HALL.out wq HQ.out.1 HQ.out.2.1 HQ.out.2.2.1
              have hmj := HMJ.out
              have hU2 := HU2.out.1
              have hT2 := HU2.out.2
              go_wp2_with fail
              go_quiet ((first | (go_at_call 64; with_reducible exact HC2.out _ _) | (go_at_call 64; with_reducible exact HC13.out _ _) | (go_at_call 64; with_reducible exact HC22.out _ _)))
              clear hmj hU2 hT2 c0 c1 c2 c3 c4 c5 c6 c7 ck cw
              obtain ⟨Q1, hQ1⟩ : ∃ x, (T2 + M1) % 4294967296 = x := ⟨_, rfl⟩
              rw [hQ1]
              have HQ1 := Lib.hid hQ1
              clear hQ1
              obtain ⟨w3, hw3⟩ : ∃ wx, wq.drewN nq = wx := ⟨_, rfl⟩
              have H3 := Lib.hid (show w3.heap[b11]? = some (.cells (s8 ⟨sa, sb, sc, sd, se, sf, sg, sh⟩) 95 (0, 0)) ∧ w3.heap[b10]? = some (.cells KA 109 (0, 0)) ∧ w3.heap[g]? = OG ∧ w3.heap[b2]? = some (.cells S0 95 (0, 0)) ∧ w3.heap[b4]? = some (.cells Z8 95 (0, 0)) ∧ Below b2 w w3 by
                rw [← hw3]
                exact ⟨HQ.out.1, HQ.out.2.1, HQ.out.2.2.1, HQ.out.2.2.2.1, HQ.out.2.2.2.2.1, pw_below_drewN HQ.out.2.2.2.2.2 nq⟩)
              rw [hw3]
              clear hw3 HQ HU2 HMJ HC6 HC11 HC25 HC2 HC13 HC22
              obtain ⟨⟨c0, c1, c2, c3, c4, c5, c6, c7⟩, ck, cw⟩ := HALL.out w3 H3.out.1 H3.out.2.1 H3.out.2.2.1
              have f0 := blk_frozen H3.out.1 0
              have f1 := blk_frozen H3.out.1 1
              have f2 := blk_frozen H3.out.1 2
              have f3 := blk_frozen H3.out.1 3
              have f4 := blk_frozen H3.out.1 4
              have f5 := blk_frozen H3.out.1 5
              have f6 := blk_frozen H3.out.1 6
              have f7 := blk_frozen H3.out.1 7
              clear ck cw
              go_wp2_with fail
              have hord := HORD.out
              have hb211 : b2 ≤ b11 := by omega
              have n10 : b10 ≠ b11 := by omega
              have ng : g ≠ b11 := by omega
              have n2 : b2 ≠ b11 := by omega
              have n4 : b4 ≠ b11 := by omega
              refine ⟨⟨k + 1, by omega, by go_num, Lib.hid ⟨?_, ?_, ?_, ?_, ?_, ?_⟩⟩, by simp only [intOf]; omega⟩
              · rw [show rounds L (k + 1) s = round (rounds L k s) (rd kT (k : Int)) (rd L (k : Int)) from rfl, HST.out, HKW.out.1, HKW.out.2, round_is HTT.out.1 HTT.out.2 HCM.out.1 HCM.out.2 HP1.out HQ1.out]
                exact set8 H3.out.1 _ _
              · exact (far8 n10).trans H3.out.2.1
              · exact (far8 ng).trans H3.out.2.2.1
              · exact (far8 n2).trans H3.out.2.2.2.1
              · exact (far8 n4).trans H3.out.2.2.2.2.1
              · exact below8 H3.out.2.2.2.2.2 hb211
            · obtain rfl : k = 64 := by omega
              obtain ⟨v, hv⟩ : ∃ v, rounds L 64 s = v := ⟨_, rfl⟩
              rw [hv] at h6
              have HVV := Lib.hid hv
              have H6 := Lib.hid (show wr.heap[b11]? = some (.cells (arrF (mixF v s 0)) 95 (0, 0)) from by rw [mix_0]; exact h6)
              have H0 := Lib.hid (show wr.heap[b2]? = some (.cells (s8 s) 95 (0, 0)) from by rw [HS0.out]; exact h2)
              have H4x := Lib.hid h4
              have HBX := Lib.hid hbl
              clear h6 h5 hgg h2 h4 hbl H hk hlt hv HKc HSc H2c H4c HGc HBc
              rw [show ((64 : Nat) : Int) = 64 from rfl]
              go_wp2_with fail
              go_loopw [17] (fun i wx => ∃ k : Nat, k ≤ 8 ∧ i = .int .i64 (k : Int) ∧ Hid (wx.heap[b11]? = some (.cells (arrF (mixF v s k)) 95 (0, 0)) ∧ wx.heap[b2]? = some (.cells (s8 s) 95 (0, 0)) ∧ wx.heap[b4]? = some (.cells Z8 95 (0, 0)) ∧ Below b2 w wx)) (fun i _ => (8 - intOf i).toNat)
              case atStart => exact ⟨0, by omega, rfl, Lib.hid ⟨H6.out, H0.out, H4x.out, HBX.out⟩⟩
              case round =>
                obtain ⟨k, hk, rfl, H⟩ := hrel
                obtain ⟨h6, h2, h4, hbl⟩ := H.out
                by_cases hlt : k < 8
                · have c0 := (blk_cell h6 k).trans (arrF_get _ hlt)
                  have c1 := (blk_cell h2 k).trans (show (s8 s)[k]? = some (.int .u32 (s.at8 k)) by rw [s8_arr]; exact arrF_get _ hlt)
                  rw [mix_at] at c0
                  have f0 := blk_frozen h6 k
                  obtain ⟨x, hx⟩ : ∃ x, v.at8 k = x := ⟨_, rfl⟩
                  obtain ⟨y, hy⟩ : ∃ x, s.at8 k = x := ⟨_, rfl⟩
                  rw [hx] at c0
                  rw [hy] at c1
                  have hord := HORD.out
                  have HN := Lib.hid (show (wr.setCell ⟨b11, k, none⟩ (.int .u32 ((x + y) % 4294967296))).heap[b11]? = some (.cells (arrF (mixF v s (k + 1))) 95 (0, 0)) ∧ (wr.setCell ⟨b11, k, none⟩ (.int .u32 ((x + y) % 4294967296))).heap[b2]? = some (.cells (s8 s) 95 (0, 0)) ∧ (wr.setCell ⟨b11, k, none⟩ (.int .u32 ((x + y) % 4294967296))).heap[b4]? = some (.cells Z8 95 (0, 0)) ∧ Below b2 w (wr.setCell ⟨b11, k, none⟩ (.int .u32 ((x + y) % 4294967296))) from by
                    refine ⟨?_, ?_, ?_, hbl.setCell (p := ⟨b11, k, none⟩) (show b2 ≤ b11 by omega) _⟩
                    · rw [← mix_S v s hlt, hx, hy]
                      exact blk_set h6 k _
                    · rw [Below.heap_setCell _ _ _ _ (show b2 ≠ b11 by omega)]; exact h2
                    · rw [Below.heap_setCell _ _ _ _ (show b4 ≠ b11 by omega)]; exact h4)
                  have i0 : (0 : Int) ≤ (k : Int) := by omega
                  have i1 : (k : Int) < 8 := by omega
                  clear h6 h2 h4 hbl H hx hy hord
                  go_wp2_with fail
                  go_region
                  go_wp2
                  go_roundw
                  case rel =>
                    have := HN.out
                    exact ⟨k + 1, by omega, by go_num, Lib.hid ⟨this.1, this.2.1, this.2.2.1, below_drew this.2.2.2⟩⟩
                  case measure => simp only [intOf]; omega
                · obtain rfl : k = 8 := by omega
                  obtain ⟨RA, hRA⟩ : ∃ A, s8 (stepS s bs) = A := ⟨_, rfl⟩
                  have HF := Lib.hid (show wr.heap[b11]? = some (.cells RA 95 (0, 0)) by
                    rw [h6, ← hRA, mix_8', ← HVV.out, ← HLL.out.1]; rfl)
                  have HRS := Lib.hid (show (Tryd.prog.info? 95).map (·.size) = some RA.size ∧ Z8.size = RA.size ∧ RA.all (·.oneCell') = true by
                    rw [← hRA, ← HZ8.out]
                    exact ⟨s8_size _, rfl, s8_one _⟩)
                  have HG4 := Lib.hid h4
                  have HBY2 := Lib.hid hbl
                  have HRR := Lib.hid hRA
                  clear h2 h6 h4 hbl H hRA
                  rw [show ((8 : Nat) : Int) = 8 from rfl]
                  go_wp2_with (first | ((with_reducible show wpList _ _ _ (Oper.mk _ (Op.load _ _) _ _ _ _ :: _) _ _); (go_loud (refine wpList_load_row rfl 95 (.tmp 11) rfl b11 rfl 95 RA (0, 0) _ HF.out HU8.out rfl HRS.out.1 ?_))) | ((with_reducible show wpList _ _ _ (Oper.mk _ (Op.store _ _ _) _ _ _ _ :: _) _ _); (go_loud (refine wpList_store_row rfl 95 (.tmp 4) (.tmp 209) rfl b4 RA rfl rfl 95 Z8 HG4.out HRS.out.1 HRS.out.2.1 HRS.out.2.2 ?_))))
                  exact bodyPost_ret (results_cell_row rfl _ _ b4 95 RA (0, 0) _ rfl (setRow_heap _ _ _ _ _ _ HG4.out) HU8.out rfl HRS.out.1) rfl ⟨by rw [HRR.out], by rw [HBB.out.1]; exact below_setRow HBY2.out (by have := HORD.out; omega) _⟩
end Go.Proofs.YtefnpecncacepaaDoor.Hand
