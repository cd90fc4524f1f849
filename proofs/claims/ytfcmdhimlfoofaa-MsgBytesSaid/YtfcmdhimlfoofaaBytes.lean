/- A header's Bytes: walked. -/
import Derived.Test.YtfcmdhimlfoofaaProg
import Derived.Below
import Derived.Deep.Draws
import Derived.Deep.AppendLies
import Derived.Maps.AppendAt
import Derived.OwnWalk
import Derived.Laws.BytesArg
import Derived.Laws.MakeOwn
import Derived.Laws.OwnMore
import Derived.Deep.OwnRows
import Derived.Tactics
import Derived.Lib.ConvBytes
import Derived.Laws.Slices
import Derived.WalkKit
import Derived.KernelRfl
import Derived.RowKit3
import Derived.Deep.LoopGhost
import Derived.Deep.QuietTactic
import Derived.BigQuiet
import Derived.WideLaws
import Derived.Deep.DeepCutAuto
import Derived.Deep.CutBlock
import Derived.Deep.RegionHeld3
import Derived.Laws.Rows
import Derived.Lib.AppendStr
import Derived.ArgAppend
import Derived.Laws.IdiomCopy
import Derived.OrdersHeld
import Derived.Laws.BitsLemmas
import Derived.RowKit
import Derived.StillTailTactics
import Derived.Test.YtfcmdhimlfoofaaWWords
import Derived.Test.YtfcmdhimlfoofaaWLast
import Derived.Test.YtfcmdhimlfoofaaWMore
import Derived.Lib.Hide
import Derived.LaidEql
import Derived.Outline
import Derived.Deep.RegionLaw
import Derived.Deep.DrawnRows
import Derived.Test.YtfcmdhimlfoofaaCells
import Derived.Test.YtfcmdhimlfoofaaWriter
import Derived.Test.YtfcmdhimlfoofaaCodecPlain
namespace Go.Proofs.Ytfcmdhimlfoofaa.Hand
open Go Go.RowKit Go.Proofs.Ytfcmdhimlfoofaa.Plain Go.Proofs.Ytfcmdhimlfoofaa.PAll Go.Proofs.YtfcmdhimlfoofaaW.PrintWords Go.Proofs.YtfcmdhimlfoofaaW.PrintLast Go.Proofs.YtfcmdhimlfoofaaW.PrintMore
set_option linter.unusedVariables false
set_option linter.unusedSimpArgs false
set_option maxRecDepth 100000
attribute [local go_sem ↓] Go.wp_at_zero Go.wp_at_succ
/-- A header's bytes. -/
def headB (v : Int) (p r : List Int) (t b n : Int) : List Int := digs 4 v.toNat ++ (p ++ r) ++ digs 4 t.toNat ++ digs 4 b.toNat ++ digs 4 n.toNat
def preB (v : Int) (p r : List Int) (t b n : Int) : Nat → List Int
  | 0 => digs 4 v.toNat ++ (p ++ r)
  | 1 => digs 4 v.toNat ++ (p ++ r) ++ digs 4 t.toNat
  | 2 => digs 4 v.toNat ++ (p ++ r) ++ digs 4 t.toNat ++ digs 4 b.toNat
  | _ => headB v p r t b n
theorem preB_len (v : Int) (p r : List Int) (t b n : Int) (k : Nat) (hp : p.length = 32) (hr : r.length = 32) : (preB v p r t b n k).length ≤ 1000000 := by
  unfold preB
  split <;> simp [headB, digs_length, hp, hr]
theorem wid4h : wid 4 = 4 := by decide
theorem hcells_at0 (v : Int) (p r : List Int) (t b n : Int) : (hcells v p r t b n).toArray[0]? = some (.int .u32 v) := rfl
/-- The two hashes' rows in the box. -/
theorem hash_rows {w : World} {bx : Nat} {v : Int} {p r : List Int} {t b n : Int} (hp : p.length = 32) (hr : r.length = 32) (h : w.heap[bx]? = some (.cells (hcells v p r t b n).toArray 54 (0, 0))) : Kd.C (Kd.int .u8) w (some ⟨bx, 1, none⟩) 32 p ∧ Kd.C (Kd.int .u8) w (some ⟨bx, 33, none⟩) 32 r := by
  have h1 := C_of_block (pre := [.int .u32 v]) (post := nums .u8 r ++ [.int .u32 t, .int .u32 b, .int .u32 n]) (k := .u8) (ys := p) (o := 1) (w := w) (b := bx) (t := 54) (fr := (0, 0)) (by rw [h]; rfl) rfl (by omega)
  have h2 := C_of_block (pre := .int .u32 v :: nums .u8 p) (post := [.int .u32 t, .int .u32 b, .int .u32 n]) (k := .u8) (ys := r) (o := 33) (w := w) (b := bx) (t := 54) (fr := (0, 0)) (by rw [h]; rfl) (by simp [nums, hp]) (by omega)
  rw [hp] at h1
  rw [hr] at h2
  exact ⟨h1, h2⟩
/-- A row of the two. -/
theorem two_rows {w : World} {bx k : Nat} {p r : List Int} {tt : TypeId} {fr : Nat × Nat} (hp : p.length = 32) (hr : r.length = 32) (h1 : Kd.C (Kd.int .u8) w (some ⟨bx, 1, none⟩) 32 p) (h2 : Kd.C (Kd.int .u8) w (some ⟨bx, 33, none⟩) 32 r) (hk : w.heap[k]? = some (.cells #[.slice (some ⟨bx, 1, none⟩) 32 32, .slice (some ⟨bx, 33, none⟩) 32 32] tt fr)) :
    Kd.C (Kd.slice 5 (Kd.int .u8)) w (some ⟨k, 0, none⟩) 2 [p, r] := by
  refine ⟨rfl, by decide, fun _ => ⟨_, rfl, fun j x hj => ?_⟩⟩
  have hadd : ∀ i, (⟨k, 0, none⟩ : Addr).add i = ⟨k, i, none⟩ := fun i => by unfold Addr.add; split <;> simp_all
  match j, hj with
  | 0, hj =>
    obtain rfl : p = x := Option.some.inj hj
    refine ⟨[.slice (some ⟨bx, 1, none⟩) 32 32], rfl, ⟨_, 32, by rw [hp], by omega, by rw [hp]; exact h1⟩, fun i u hu => ?_⟩
    match i, hu with
    | 0, hu =>
      obtain rfl := Option.some.inj hu
      rw [hadd]
      simp [World.cell?, hk]
    | i + 1, hu => simp at hu
  | 1, hj =>
    obtain rfl : r = x := Option.some.inj hj
    refine ⟨[.slice (some ⟨bx, 33, none⟩) 32 32], rfl, ⟨_, 32, by rw [hr], by omega, by rw [hr]; exact h2⟩, fun i u hu => ?_⟩
    match i, hu with
    | 0, hu =>
      obtain rfl := Option.some.inj hu
      rw [hadd]
      simp [World.cell?, hk]
      rfl
    | i + 1, hu => simp at hu
  | j + 2, hj => simp at hj
set_option maxHeartbeats 4000000 in
set_option maxRecDepth 100000 in
theorem hbytes_calls (v : Int) (p r : List Int) (t b n : Int) (w : World) (hp : p.length = 32) (hr : r.length = 32) (hv0 : 0 ≤ v) (hv1 : v < 4294967296) (ht0 : 0 ≤ t) (ht1 : t < 4294967296) (hb0 : 0 ≤ b) (hb1 : b < 4294967296) (hn0 : 0 ≤ n) (hn1 : n < 4294967296) :
    Calls Try.prog 42 #[hV v p r t b n] w fun e w' => ∃ x, e = .returned x ∧ Kd.R (Kd.int .u8) 5 w' w.heap.size (fun _ => True) x (headB v p r t b n) ∧ Below w.heap.size w w' := by
  have HP := Lib.hid hp
  have HR := Lib.hid hr
  have HV0 := Lib.hid hv0
  have HT0 := Lib.hid ht0
  have HB0 := Lib.hid hb0
  have HN0 := Lib.hid hn0
  obtain ⟨C, hC⟩ : ∃ C, (hcells v p r t b n).toArray = C := ⟨_, rfl⟩
  have hV1 : hV v p r t b n = .agg C := by rw [hV, hC]
  rw [hV1]
  have HC := Lib.hid hC
  have wv : v % 18446744073709551616 = v := by omega
  have wt : t % 18446744073709551616 = t := by omega
  have wb : b % 18446744073709551616 = b := by omega
  have wn : n % 18446744073709551616 = n := by omega
  have wv' : IntKind.u64.wrap v = v := u64w_id (by omega) (by omega)
  have wt' : IntKind.u64.wrap t = t := u64w_id (by omega) (by omega)
  have wb' : IntKind.u64.wrap b = b := u64w_id (by omega) (by omega)
  have wn' : IntKind.u64.wrap n = n := u64w_id (by omega) (by omega)
  obtain ⟨W1, hW1⟩ : ∃ W1, w.alloc (.cells C 54) = W1 := ⟨_, rfl⟩
  have HB1 : Hid (Below w.heap.size w W1) := Lib.hid (by rw [← hW1]; exact below_alloc (Below.refl _ _) _)
  have HK1 : Hid (W1.heap[w.heap.size]? = some (.cells C 54 (0, 0))) := Lib.hid (by rw [← hW1]; simpa using heap_alloc_new w _)
  have HW1 := Lib.hid hW1
  obtain ⟨bx, hbx⟩ : ∃ k, w.heap.size = k := ⟨_, rfl⟩
  have HBX := Lib.hid hbx
  rw [hbx] at HK1
  have HCELL := Lib.hid (show ∀ W, Below W1.heap.size W1 W → W.heap[bx]? = some (.cells C 54 (0, 0)) ∧ W.cell? ⟨bx, 0, none⟩ = some (.int .u32 v) ∧ W.cell? ⟨bx, 65, none⟩ = some (.int .u32 t) ∧ W.cell? ⟨bx, 66, none⟩ = some (.int .u32 b) ∧ W.cell? ⟨bx, 67, none⟩ = some (.int .u32 n) from fun W hb => by
    have h := (hb.block bx (blk_lt HK1.out)).trans HK1.out
    obtain ⟨a5, a6, a7⟩ := hcells_at v p r t b n hp hr
    have a0 := hcells_at0 v p r t b n
    rw [hC] at a0 a5 a6 a7
    exact ⟨h, (blk_cell h 0).trans a0, (blk_cell h 65).trans a5, (blk_cell h 66).trans a6, (blk_cell h 67).trans a7⟩)
  clear hp hr hv0 hv1 ht0 ht1 hb0 hb1 hn0 hn1 hC hV1 hW1
  go_enter Try.func42, Try.ntmps42
  go_wp2_with fail
  rw [HW1.out]
  refine (cnew_calls _).mono ?_
  rintro e w1 ⟨rfl, hw, hb⟩
  have HIS := Lib.hid hw
  have HB2 := Lib.hid hb
  clear hw hb
  obtain ⟨k0, k1, k2, k3, k4⟩ := HCELL.out _ HB2.out
  clear k0
  go_wp2_with fail
  refine (cnum_int v 4 HV0.out HIS.out (by decide)).mono ?_
  rintro e w2 ⟨rfl, hw, hb, _⟩
  have HIS2 := Lib.hid hw
  have HB3 := Lib.hid (HB2.out.trans hb)
  clear hw hb HIS HB2 k1 k2 k3 k4
  have HPUT := Lib.hid (show Calls Try.prog 40 #[.pointer (some ⟨W1.heap.size, 0, none⟩), .slice (some ⟨w2.heap.size, 0, none⟩) 2 2] (w2.alloc (.cells #[.slice (some ⟨bx, 1, none⟩) 32 32, .slice (some ⟨bx, 33, none⟩) 32 32] 23)).drew fun e w' => e = .returned (.tuple #[]) ∧ IsC w' W1.heap.size W1.heap.size (digs 4 v.toNat ++ (p ++ r)) ∧ Below W1.heap.size W1 w' from by
    have hbd := below_drew (below_alloc HB3.out (.cells #[.slice (some ⟨bx, 1, none⟩) 32 32, .slice (some ⟨bx, 33, none⟩) 32 32] 23))
    have hisA := (HIS2.out.alloc (.cells #[.slice (some ⟨bx, 1, none⟩) 32 32, .slice (some ⟨bx, 33, none⟩) 32 32] 23)).drew
    have hk : (w2.alloc (.cells #[.slice (some ⟨bx, 1, none⟩) 32 32, .slice (some ⟨bx, 33, none⟩) 32 32] 23)).drew.heap[w2.heap.size]? = some (.cells #[.slice (some ⟨bx, 1, none⟩) 32 32, .slice (some ⟨bx, 33, none⟩) 32 32] 23 (0, 0)) := (by simpa using heap_alloc_new w2 _ : (w2.alloc (.cells #[.slice (some ⟨bx, 1, none⟩) 32 32, .slice (some ⟨bx, 33, none⟩) 32 32] 23)).heap[w2.heap.size]? = some (.cells #[.slice (some ⟨bx, 1, none⟩) 32 32, .slice (some ⟨bx, 33, none⟩) 32 32] 23 (0, 0)))
    refine (cput_calls (some ⟨w2.heap.size, 0, none⟩) 2 [p, r] hisA (fun W' hb' hk' => ?_) (by simp) (by simp [digs_length, HP.out, HR.out, wid4h])).mono ?_
    · have hW' := HCELL.out W' (hbd.trans hb')
      have h28 := hW'.1
      rw [← HC.out] at h28
      obtain ⟨r1, r2⟩ := hash_rows HP.out HR.out h28
      have hne : w2.heap.size ≠ W1.heap.size := by have := HIS2.out.lt; omega
      exact two_rows HP.out HR.out r1 r2 (hk'.blk hne (hisA.row hk (by decide)) hk)
    · rintro e w' ⟨rfl, h1, h2, _⟩
      refine ⟨rfl, ?_, hbd.trans h2⟩
      simpa [wid4h] using h1)
  go_wp2_with fail
  go_region_law (go_simp; go_at_call 40; with_reducible refine HPUT.out.mono ?_; rintro e w3 ⟨rfl, hw3, hb3⟩; have HIS3 := Lib.hid hw3; have HB4 := Lib.hid hb3; clear hw3 hb3)
  all_goals
    clear HPUT HIS2 HB3
    obtain ⟨k0, k1, k2, k3, k4⟩ := HCELL.out _ HB4.out
    clear k0
    go_wp2_with fail
    clear k1 k2 k3 k4
    go_loopw [26] (fun i wr => ∃ k : Int, 0 ≤ k ∧ k ≤ 3 ∧ i = .int .i64 k ∧ Hid (IsC wr W1.heap.size W1.heap.size (preB v p r t b n k.toNat) ∧ Below W1.heap.size W1 wr)) (fun i _ => (3 - intOf i).toNat)
    case atStart => exact ⟨0, by omega, by omega, rfl, Lib.hid ⟨HIS3.out, HB4.out⟩⟩
    case round =>
      obtain ⟨k, hk0, hk3, rfl, H⟩ := hrel
      obtain ⟨hw, hb⟩ := H.out
      have HIS5 := Lib.hid hw
      have HB5 := Lib.hid hb
      have hix : ∀ (W : World) (j : Nat) (x : Int), (#[.int .u32 t, .int .u32 b, .int .u32 n] : Array Value)[j]? = some (.int .u32 x) → j < 3 → (Instr.index 128 (.agg #[.int .u32 t, .int .u32 b, .int .u32 n]) (.int .i64 j)).run Try.prog W = .ok (.int .u32 x) W := fun W j x hj hj3 => by
        have z3 : (sizeOf 52).run Try.prog W = .ok 1 W := by rfl
        have a3 : (isAgg 52).run Try.prog W = .ok false W := by simp [isAgg, run_underlying Try.underlying52]
        unfold Instr.index
        simp only [asIntOf, run_underlying Try.underlying128, Sem.run_bind, Sem.run_pure, Result.andThen_ok]
        match j, hj, hj3 with
        | 0, hj, _ => (obtain rfl := (by simpa using hj : t = x)); simp [part, z3, a3]
        | 1, hj, _ => (obtain rfl := (by simpa using hj : b = x)); simp [part, z3, a3]
        | 2, hj, _ => (obtain rfl := (by simpa using hj : n = x)); simp [part, z3, a3]
      have hway : k = 0 ∨ k = 1 ∨ k = 2 ∨ k = 3 := by omega
      clear hw hb H
      rcases hway with rfl | rfl | rfl | rfl
      · have hx := fun W => hix W 0 t rfl (by decide)
        simp only [Int.natCast_zero] at hx
        clear hix
        go_wp2_with fail
        refine (cnum_int t 4 HT0.out HIS5.out (preB_len _ _ _ _ _ _ _ HP.out HR.out)).mono ?_
        rintro e w6 ⟨rfl, hw6, hb6, _⟩
        have HIS6 := Lib.hid hw6
        have HB6 := Lib.hid (HB5.out.trans hb6)
        clear hw6 hb6
        go_wp2
        go_roundw
        case rel => exact ⟨1, by omega, by omega, by first | rfl | simp, Lib.hid ⟨by simpa [preB, wid4h, List.append_assoc] using HIS6.out, HB6.out⟩⟩
        case measure => simp [intOf]
      · have hx := fun W => hix W 1 b rfl (by decide)
        simp only [Int.natCast_one] at hx
        clear hix
        go_wp2_with fail
        refine (cnum_int b 4 HB0.out HIS5.out (preB_len _ _ _ _ _ _ _ HP.out HR.out)).mono ?_
        rintro e w6 ⟨rfl, hw6, hb6, _⟩
        have HIS6 := Lib.hid hw6
        have HB6 := Lib.hid (HB5.out.trans hb6)
        clear hw6 hb6
        go_wp2
        go_roundw
        case rel => exact ⟨2, by omega, by omega, by first | rfl | simp, Lib.hid ⟨by simpa [preB, wid4h, List.append_assoc] using HIS6.out, HB6.out⟩⟩
        case measure => simp [intOf]
      · have hx := fun W => hix W 2 n rfl (by decide)
        simp only [show ((2 : Nat) : Int) = 2 from rfl] at hx
        clear hix
        go_wp2_with fail
        refine (cnum_int n 4 HN0.out HIS5.out (preB_len _ _ _ _ _ _ _ HP.out HR.out)).mono ?_
        rintro e w6 ⟨rfl, hw6, hb6, _⟩
        have HIS6 := Lib.hid hw6
        have HB6 := Lib.hid (HB5.out.trans hb6)
        clear hw6 hb6
        go_wp2
        go_roundw
        case rel => exact ⟨3, by omega, by omega, by first | rfl | simp, Lib.hid ⟨by simpa [preB, headB, wid4h, List.append_assoc] using HIS6.out, HB6.out⟩⟩
        case measure => simp [intOf]
      · clear hix
        have HIS6 : Hid (IsC wr W1.heap.size W1.heap.size (headB v p r t b n)) := HIS5
        have hlen := preB_len v p r t b n 3 HP.out HR.out
        go_wp2_with fail
        refine (cbytes_calls HIS6.out (by have : preB v p r t b n 3 = headB v p r t b n := rfl; rw [← this]; omega)).mono ?_
        rintro e w6 ⟨x, rfl, hv6, hb6⟩
        have HV6 := Lib.hid hv6
        have HB6 := Lib.hid (HB5.out.trans (Below.mono hb6 HB5.out.size))
        have HSZ := Lib.hid (show w.heap.size ≤ wr.heap.size from Nat.le_trans HB1.out.size HB5.out.size)
        clear hv6 hb6
        go_wp2
        go_ret
        exact ⟨_, rfl, Kd.R_lower HV6.out HSZ.out, HB1.out.trans (Below.mono HB6.out HB1.out.size)⟩
end Go.Proofs.Ytfcmdhimlfoofaa.Hand
