/- BitWrites: walked. -/
import Derived.Test.YtmpkopkibkjgfaaProg
import Derived.Below
import Derived.Deep.Draws
import Derived.Deep.AppendLies
import Derived.Maps.AppendAt
import Derived.OwnWalk
import Derived.Laws.BytesArg
import Derived.Laws.MakeOwn
import Derived.Laws.OwnMore
import Derived.Deep.OwnRows
import Derived.Tactics
import Derived.Lib.ConvBytes
import Derived.Laws.Slices
import Derived.WalkKit
import Derived.KernelRfl
import Derived.RowKit3
import Derived.Deep.LoopGhost
import Derived.Deep.QuietTactic
import Derived.BigQuiet
import Derived.WideLaws
import Derived.Deep.DeepCutAuto
import Derived.Deep.CutBlock
import Derived.Deep.RegionHeld3
import Derived.Laws.Rows
import Derived.Lib.AppendStr
import Derived.ArgAppend
import Derived.Laws.IdiomCopy
import Derived.OrdersHeld
import Derived.Laws.BitsLemmas
import Derived.RowKit
import Derived.StillTailTactics
import Derived.Test.YtmpkopkibkjgfaaWWords
import Derived.Test.YtmpkopkibkjgfaaWLast
import Derived.Test.YtmpkopkibkjgfaaWMore
import Derived.Lib.Hide
import Derived.LaidEql
import Derived.Outline
import Derived.Test.YtmpkopkibkjgfaaAwake
import Derived.Test.YtmpkopkibkjgfaaBitRef
import Derived.Test.YtmpkopkibkjgfaaOpens
namespace Go.Proofs.Ytmpkopkibkjgfaa.Hand
open Go Go.RowKit Go.Proofs.Ytmpkopkibkjgfaa.Plain Go.Proofs.Ytmpkopkibkjgfaa.PAll Go.Proofs.YtmpkopkibkjgfaaW.PrintWords Go.Proofs.YtmpkopkibkjgfaaW.PrintLast Go.Proofs.YtmpkopkibkjgfaaW.PrintMore
attribute [local go_sem] max2_int min2_int max_two min_two max_three min_three max_four min_four
set_option linter.unusedVariables false
set_option linter.unusedSimpArgs false
/-- A part: (Ones, N, M). -/
abbrev Part := Bool × Int × Int
def kOp : Kd Part := Kd.pair Kd.bool (Kd.pair (Kd.int .u64) (Kd.int .i64))
def zOp : Part := (false, 0, 0)
def rdP (xs : List Part) (i : Int) : Part := xs.getD i.toNat zOp
theorem kOp_open {w : World} {x : Part} {cs : List Value} (h : kOp.K w x cs) : cs = [.bool x.1, .int .u64 x.2.1, .int .i64 x.2.2] := by
  obtain ⟨_, _, rfl, rfl, ⟨_, _, rfl, rfl, rfl⟩⟩ := h
  rfl
theorem at_op {w : World} {A : Option Addr} {n : Nat} {xs : List Part} (h : Kd.C kOp w A n xs) (i : Int) (h0 : 0 ≤ i) (h1 : i < n) : ∃ ad, A = some ad ∧ w.cell? (ad.add (i.toNat * 3)) = some (.bool (rdP xs i).1) ∧ w.cell? ⟨(ad.add (i.toNat * 3)).block, (ad.add (i.toNat * 3)).off + 1, none⟩ = some (.int .u64 (rdP xs i).2.1) ∧ w.cell? ⟨(ad.add (i.toNat * 3)).block, (ad.add (i.toNat * 3)).off + 2, none⟩ = some (.int .i64 (rdP xs i).2.2) := by
  obtain ⟨ad, c, e, _, hK, hc0⟩ := Kd.C_get h zOp i h0 h1
  have hc : ∀ j u, c[j]? = some u → w.cell? (ad.add (i.toNat * 3 + j)) = some u := hc0
  obtain rfl := kOp_open hK
  exact ⟨ad, e, hc 0 _ rfl, by rw [← add_field _ _ 1 (by omega)]; exact hc 1 _ rfl, by rw [← add_field _ _ 2 (by omega)]; exact hc 2 _ rfl⟩
theorem rdP_mem {xs : List Part} {i : Int} (h0 : 0 ≤ i) (h1 : i < (xs.length : Int)) : rdP xs i ∈ xs := by
  unfold rdP
  rw [List.getD_eq_getElem?_getD, List.getElem?_eq_getElem (by omega)]
  exact List.getElem_mem _
theorem held_calls (n lo hi : Int) (w : World) : Calls Try.prog 12 #[.int .i64 n, .int .i64 lo, .int .i64 hi] w fun e w' => e = .returned (.int .i64 (mn (mx n lo) hi)) ∧ w' = w := by
  obtain ⟨m, hm⟩ : ∃ m : Int, mx n lo = m := ⟨_, rfl⟩
  have em : (if n < lo then lo else n) = m := hm
  rw [hm]
  obtain ⟨k, hk⟩ : ∃ k : Int, mn m hi = k := ⟨_, rfl⟩
  have ek : (if hi < m then hi else m) = k := hk
  rw [hk]
  clear hm hk
  go_enter Try.func12, Try.ntmps12
  go_wp2
  go_ret
  exact ⟨rfl, rfl⟩
set_option maxHeartbeats 4000000 in
set_option maxRecDepth 100000 in
theorem writes_calls (A : Option Addr) (c : Nat) (xs : List Part) (w : World) (hr : Kd.C kOp w A xs.length xs) (hc : xs.length ≤ c) (hm : xs.length ≤ 9223372036854775807) (hwf : ∀ x ∈ xs, (Lit.int .u64 x.2.1).wf = true) :
    Calls Try.prog 3 #[.slice A xs.length c] w fun e w' => e = .returned (.bool true) ∧ Below w.heap.size w w' := by
  have HR := Lib.hid hr
  have HWF := Lib.hid hwf
  clear hr hwf hc
  go_enter Try.func3, Try.ntmps3
  go_wp2_with fail
  refine (new_calls _).mono ?_
  rintro e w1 ⟨rfl, hw, hb⟩
  have HW := Lib.hid hw
  have HB := Lib.hid hb
  clear hw hb
  go_wp2_with fail
  go_loopw [4, 13] (fun v i wr => ∃ (k : Int), 0 ≤ k ∧ k ≤ 30 ∧ k ≤ (xs.length : Int) ∧ i = .int .i64 k ∧ ∃ s, v = .string s ∧ Hid (∃ l, s = txt l ∧ (l.length : Int) ≤ 100 * k ∧ IsB wr w.heap.size w.heap.size l ∧ Below w.heap.size w wr)) (fun _ i _ => (30 - intOf i).toNat)
  case atStart => exact ⟨0, by omega, by omega, by omega, rfl, _, rfl, Lib.hid ⟨[], rfl, by simp, HW.out, HB.out⟩⟩
  case round =>
    obtain ⟨k, hk0, hk30, hkx, rfl, s, rfl, H⟩ := hrel
    by_cases hlt : k < (xs.length : Int)
    · obtain ⟨l, hs, hl, hw, hb⟩ := H.out
      obtain ⟨ad, rfl, c0, c1, c2⟩ := at_op (Kd.C_below HR.out hb) k hk0 hlt
      obtain ⟨⟨b, n, m⟩, hx⟩ : ∃ x, rdP xs k = x := ⟨_, rfl⟩
      have hn := bounds_u64 (HWF.out _ (rdP_mem hk0 hlt))
      rw [hx] at c0 c1 c2 hn
      simp only at c0 c1 c2 hn
      clear hx hs hl hw hb
      obtain ⟨hn0, hn1⟩ := hn
      by_cases h29 : 29 < k
      · obtain ⟨l, hs, hl, hw, hb⟩ := H.out
        obtain ⟨t, ht⟩ : ∃ t, strOfNums (pk l) = t := ⟨_, rfl⟩
        have hby := bytes_tells l (by omega) (l.length + 100) (by omega)
        rw [← hs, ht] at hby
        have HT := Lib.hid ht
        have HBY := Lib.hid hby
        have HL := Lib.hid (show l.length ≤ 1000000000 by omega)
        have HW1 := Lib.hid hw
        have HB1 := Lib.hid hb
        clear hs hl hw hb H ht hby
        go_wp2_with fail
        have HW2 := Lib.hid (HW1.out.alloc (.cells #[.bool b, .int .u64 n, .int .i64 m] 27))
        have HB2 := Lib.hid (below_alloc HB1.out (.cells #[.bool b, .int .u64 n, .int .i64 m] 27))
        clear HW1 HB1 c0 c1 c2
        generalize wr.alloc (.cells #[.bool b, .int .u64 n, .int .i64 m] 27) = W2 at HW2 HB2 ⊢
        go_region_with (first | (go_at_call 14; refine (bytes_bits HW2.out.drew HL.out).mono ?_; rintro e w5 ⟨v, rfl, hv, hb5⟩; have hcv := own_string (P := Try.prog) Try.underlying34 Try.underlying5 Try.underlying9 (Kd.own_of_R hv); rw [HT.out] at hcv; have HV := Lib.hid hv; have HB5 := Lib.hid (HB2.out.drew.trans (Below.mono hb5 HB2.out.size)); clear hv hb5) | (go_at_call 15; refine (mastheadref11_Bytes.calls _ _ t _ HBY.out).mono ?_; rintro e w6 ⟨rfl, hb6⟩; have hcv2 := own_string (P := Try.prog) Try.underlying34 Try.underlying5 Try.underlying9 (Kd.own_of_R (Kd.R_below HV.out hb6)); rw [HT.out] at hcv2; have HB6 := Lib.hid (HB5.out.trans (Below.mono hb6 HB5.out.size)); clear hb6) | (go_at_call 16; refine (awake_calls _).mono ?_; rintro e w7 ⟨rfl, hb7⟩; have HB7 := Lib.hid (HB6.out.trans (Below.mono hb7 HB6.out.size)); clear hb7))
        all_goals
          go_wp2
          go_ret
          exact ⟨rfl, HB7.out⟩
      · cases b with
        | true =>
          obtain ⟨l, hs, hl, hw, hb⟩ := H.out
          obtain ⟨m1, hm1⟩ : ∃ m1 : Int, mn m 100 = m1 := ⟨_, rfl⟩
          have em : (if 100 < m then 100 else m) = m1 := hm1
          obtain ⟨m2, hm2⟩ : ∃ m2 : Int, mx m1 0 = m2 := ⟨_, rfl⟩
          have em2 : (if m1 < 0 then 0 else m1) = m2 := hm2
          have h20 : 0 ≤ m2 := by rw [← em2]; split <;> omega
          have h2100 : m2 ≤ 100 := by rw [← em2, ← em]; repeat' split <;> omega
          have hput : mn (mx m1 0) 65536 = m2 := by rw [hm2]; unfold mn; rw [if_neg (by omega)]
          have HPUT := Lib.hid hput
          have HON := Lib.hid (show mastheadref11_Ones.f (m2.toNat + 1) m2 = some (txt (List.replicate m2.toNat true)) by
            have := ones_tells m2.toNat (by omega) (m2.toNat + 1) (by omega)
            rwa [Int.toNat_of_nonneg h20] at this)
          clear hm1 hm2 hput
          have HLN := Lib.hid (show l.length ≤ 900000000 by omega)
          have HLK := Lib.hid (show (l.length : Int) + m2 ≤ 100 * (k + 1) by omega)
          have HS := Lib.hid hs
          have HW1 := Lib.hid (hw.alloc (.cells #[.bool true, .int .u64 n, .int .i64 m] 27))
          have HB1 := Lib.hid (below_alloc hb (.cells #[.bool true, .int .u64 n, .int .i64 m] 27))
          have hsz : s.size + (txt (List.replicate m2.toNat true)).size ≤ 9223372036854775807 := by rw [hs, txt_size, txt_size]; simp only [List.length_replicate, bitsOf_length]; omega
          have HSZ := Lib.hid hsz
          have HN := Lib.hid (show txt (l ++ (List.replicate m2.toNat true)) = s ++ txt (List.replicate m2.toNat true) by rw [hs, txt_append])
          have HLEN := Lib.hid (show ((l ++ (List.replicate m2.toNat true)).length : Int) ≤ 100 * (k + 1) by simp only [List.length_append, List.length_replicate, bitsOf_length]; have := HLK.out; omega)
          clear hs hl hw hb hsz H HLK
          go_wp2_with fail
          refine (ones_bits m1 HW1.out HLN.out).mono ?_
          rw [HPUT.out]
          rintro e w2 ⟨rfl, hw2, hb2, hk2⟩
          have HW2 := Lib.hid hw2
          have HB2 := Lib.hid (HB1.out.trans hb2)
          clear hw2 hb2 hk2 HW1 HB1 c0 c1 c2
          go_wp2_with fail
          refine (mastheadref11_Ones.calls _ _ _ _ HON.out).mono ?_
          rintro e w3 ⟨rfl, hb3⟩
          have HW3 := Lib.hid (HW2.out.below hb3)
          have HB3 := Lib.hid (HB2.out.trans (Below.mono hb3 HB2.out.size))
          clear hb3 HW2 HB2
          have hsz := HSZ.out
          go_wp2_with fail
          have hn2 := HN.out
          rw [← hn2]
          obtain ⟨S, hS⟩ : ∃ S, txt (l ++ (List.replicate m2.toNat true)) = S := ⟨_, rfl⟩
          rw [hS]
          have hcmp : (((l ++ (List.replicate m2.toNat true)).length : Int) != (S.size : Int)) = false := by rw [← hS, txt_size]; simp
          have HSS := Lib.hid hS
          clear hn2 hS hsz
          refine (len_bits HW3.out).mono ?_
          rintro e w4 ⟨rfl, rfl⟩
          generalize hLL : (l ++ (List.replicate m2.toNat true)).length = LL at hcmp ⊢
          have HLL := Lib.hid hLL
          clear hLL
          go_wp2
          go_roundw
          case rel => exact ⟨k + 1, by omega, by omega, by omega, rfl, _, rfl, Lib.hid ⟨_, HSS.out.symm, HLEN.out, HW3.out, HB3.out⟩⟩
          case measure => simp [intOf]; omega
        | false =>
          obtain ⟨l, hs, hl, hw, hb⟩ := H.out
          obtain ⟨m1, hm1⟩ : ∃ m1 : Int, mx m 0 = m1 := ⟨_, rfl⟩
          obtain ⟨q, hq⟩ : ∃ q : Int, mn m1 64 = q := ⟨_, rfl⟩
          have hq0 : 0 ≤ q := by rw [← hq, ← hm1]; unfold mn mx; repeat' split <;> omega
          have hq64 : q ≤ 64 := by rw [← hq]; unfold mn; split <;> omega
          have HQ := Lib.hid (show mn (mx m 0) 64 = q by rw [hm1]; exact hq)
          have HON := Lib.hid (show mastheadref11_Bits.f (q.toNat + 1) n q = some (txt (bitsOf n.toNat q.toNat)) by
            have := bits_tells n.toNat (by omega) q.toNat (by omega) (q.toNat + 1) (by omega)
            rwa [Int.toNat_of_nonneg hq0, Int.toNat_of_nonneg hn0] at this)
          clear hm1 hq
          have HLN := Lib.hid (show l.length ≤ 900000000 by omega)
          have HLK := Lib.hid (show (l.length : Int) + q ≤ 100 * (k + 1) by omega)
          have HS := Lib.hid hs
          have HGL := Lib.hid hw.cells.1
          have HW1 := Lib.hid (hw.alloc (.cells #[.bool false, .int .u64 n, .int .i64 m] 27))
          have HB1 := Lib.hid (below_alloc hb (.cells #[.bool false, .int .u64 n, .int .i64 m] 27))
          have hsz : s.size + (txt (bitsOf n.toNat q.toNat)).size ≤ 9223372036854775807 := by rw [hs, txt_size, txt_size]; simp only [List.length_replicate, bitsOf_length]; omega
          have HSZ := Lib.hid hsz
          have HN := Lib.hid (show txt (l ++ (bitsOf n.toNat q.toNat)) = s ++ txt (bitsOf n.toNat q.toNat) by rw [hs, txt_append])
          have HLEN := Lib.hid (show ((l ++ (bitsOf n.toNat q.toNat)).length : Int) ≤ 100 * (k + 1) by simp only [List.length_append, List.length_replicate, bitsOf_length]; have := HLK.out; omega)
          clear hs hl hw hb hsz H HLK
          go_wp2_with fail
          refine (put_int n m HW1.out hn0 (by omega) HLN.out).mono ?_
          rw [HQ.out]
          rintro e w2 ⟨rfl, hw2, hb2, hk2⟩
          have HW2 := Lib.hid hw2
          have HB2 := Lib.hid (HB1.out.trans hb2)
          have hbox : (wr.alloc (.cells #[.bool false, .int .u64 n, .int .i64 m] 27)).heap[wr.heap.size]? = some (.cells #[.bool false, .int .u64 n, .int .i64 m] 27 (0, 0)) := by simpa using heap_alloc_new wr _
          have hne : wr.heap.size ≠ w.heap.size := by have := HGL.out; omega
          have hcell1 : w2.cell? ⟨wr.heap.size, 1, none⟩ = some (.int .u64 n) := hk2.cell hne hbox (by decide) ((blk_cell hbox 1).trans rfl)
          have hcell2 : w2.cell? ⟨wr.heap.size, 2, none⟩ = some (.int .i64 m) := hk2.cell hne hbox (by decide) ((blk_cell hbox 2).trans rfl)
          clear hw2 hb2 hk2 HW1 HB1 c0 c1 c2 hbox hne
          have hsz := HSZ.out
          go_wp2_with fail
          have HH := Lib.hid (show ∀ W : World, Calls Try.prog 12 #[.int .i64 m, .int .i64 0, .int .i64 64] W fun e w' => e = .returned (.int .i64 q) ∧ w' = W from fun W => by have := held_calls m 0 64 W; rwa [HQ.out] at this)
          have HBI := Lib.hid (show ∀ (W : World) (N : Nat), Calls Try.prog 11 #[.int .u64 n, .int .i64 q] (W.drewN N) fun e w' => e = .returned (.string (txt (bitsOf n.toNat q.toNat))) ∧ ∃ M, w' = W.drewN M from fun W N => (mastheadref11_Bits.calls _ _ _ _ _ HON.out).mono fun e w' hh => by
            obtain ⟨he, ⟨nd, hd⟩⟩ := hh
            exact ⟨he, _, by rw [hd, World.drewN_drewN]⟩)
          go_quiet ((first | (go_at_call 12; exact Calls.quiet_of_same (HH.out _)) | (go_at_call 11; exact HBI.out _ _)))
          go_wp2_with fail
          have HW3 := Lib.hid (HW2.out.drewN nq)
          have HB3 := Lib.hid (pw_below_drewN HB2.out nq)
          have hn2 := HN.out
          rw [← hn2]
          obtain ⟨S, hS⟩ : ∃ S, txt (l ++ (bitsOf n.toNat q.toNat)) = S := ⟨_, rfl⟩
          rw [hS]
          have hcmp : (((l ++ (bitsOf n.toNat q.toNat)).length : Int) != (S.size : Int)) = false := by rw [← hS, txt_size]; simp
          have HSS := Lib.hid hS
          clear hn2 hS hsz
          refine (len_bits HW3.out).mono ?_
          rintro e w4 ⟨rfl, rfl⟩
          generalize hLL : (l ++ (bitsOf n.toNat q.toNat)).length = LL at hcmp ⊢
          have HLL := Lib.hid hLL
          clear hLL
          go_wp2
          go_roundw
          case rel => exact ⟨k + 1, by omega, by omega, by omega, rfl, _, rfl, Lib.hid ⟨_, HSS.out.symm, HLEN.out, HW3.out, HB3.out⟩⟩
          case measure => simp [intOf]; omega
    · obtain ⟨l, hs, hl, hw, hb⟩ := H.out
      obtain ⟨t, ht⟩ : ∃ t, strOfNums (pk l) = t := ⟨_, rfl⟩
      have hby := bytes_tells l (by omega) (l.length + 100) (by omega)
      rw [← hs, ht] at hby
      have HT := Lib.hid ht
      have HBY := Lib.hid hby
      have HL := Lib.hid (show l.length ≤ 1000000000 by omega)
      have HW1 := Lib.hid hw
      have HB1 := Lib.hid hb
      clear hs hl hw hb H ht hby
      go_wp2_with fail
      have HW2 := HW1
      have HB2 := HB1
      clear HW1 HB1
      go_region_with (first | (go_at_call 14; refine (bytes_bits HW2.out.drew HL.out).mono ?_; rintro e w5 ⟨v, rfl, hv, hb5⟩; have hcv := own_string (P := Try.prog) Try.underlying34 Try.underlying5 Try.underlying9 (Kd.own_of_R hv); rw [HT.out] at hcv; have HV := Lib.hid hv; have HB5 := Lib.hid (HB2.out.drew.trans (Below.mono hb5 HB2.out.size)); clear hv hb5) | (go_at_call 15; refine (mastheadref11_Bytes.calls _ _ t _ HBY.out).mono ?_; rintro e w6 ⟨rfl, hb6⟩; have hcv2 := own_string (P := Try.prog) Try.underlying34 Try.underlying5 Try.underlying9 (Kd.own_of_R (Kd.R_below HV.out hb6)); rw [HT.out] at hcv2; have HB6 := Lib.hid (HB5.out.trans (Below.mono hb6 HB5.out.size)); clear hb6) | (go_at_call 16; refine (awake_calls _).mono ?_; rintro e w7 ⟨rfl, hb7⟩; have HB7 := Lib.hid (HB6.out.trans (Below.mono hb7 HB6.out.size)); clear hb7))
      all_goals
        go_wp2
        go_ret
        exact ⟨rfl, HB7.out⟩
end Go.Proofs.Ytmpkopkibkjgfaa.Hand
