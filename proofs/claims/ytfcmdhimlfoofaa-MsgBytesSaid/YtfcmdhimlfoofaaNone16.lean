/- Whether a message has a field, and whether it is within its bounds: walked (Msg.none, Msg.fits, within). -/
import Derived.Test.YtfcmdhimlfoofaaProg
import Derived.Below
import Derived.Deep.Draws
import Derived.Deep.AppendLies
import Derived.Maps.AppendAt
import Derived.OwnWalk
import Derived.Laws.BytesArg
import Derived.Laws.MakeOwn
import Derived.Laws.OwnMore
import Derived.Deep.OwnRows
import Derived.Tactics
import Derived.Lib.ConvBytes
import Derived.Laws.Slices
import Derived.WalkKit
import Derived.KernelRfl
import Derived.RowKit3
import Derived.Deep.LoopGhost
import Derived.Deep.QuietTactic
import Derived.BigQuiet
import Derived.WideLaws
import Derived.Deep.DeepCutAuto
import Derived.Deep.CutBlock
import Derived.Deep.RegionHeld3
import Derived.Laws.Rows
import Derived.Lib.AppendStr
import Derived.ArgAppend
import Derived.Laws.IdiomCopy
import Derived.OrdersHeld
import Derived.Laws.BitsLemmas
import Derived.RowKit
import Derived.StillTailTactics
import Derived.Test.YtfcmdhimlfoofaaWWords
import Derived.Test.YtfcmdhimlfoofaaWLast
import Derived.Test.YtfcmdhimlfoofaaWMore
import Derived.Lib.Hide
import Derived.Outline
import Derived.Deep.MidRow
import Derived.Deep.WholeRow
import Derived.Deep.DrawnRows
import Derived.Test.YtfcmdhimlfoofaaCells16
import Derived.Test.YtfcmdhimlfoofaaUses16
namespace Go.Proofs.Ytfcmdhimlfoofaa.Hand
open Go Go.RowKit Go.Proofs.Ytfcmdhimlfoofaa.Plain Go.Proofs.Ytfcmdhimlfoofaa.PAll Go.Proofs.YtfcmdhimlfoofaaW.PrintWords Go.Proofs.YtfcmdhimlfoofaaW.PrintLast Go.Proofs.YtfcmdhimlfoofaaW.PrintMore
set_option linter.unusedVariables false
set_option linter.unusedSimpArgs false
set_option maxRecDepth 100000
attribute [local go_sem ↓] Go.wp_at_zero Go.wp_at_succ
theorem built_hash : Try.prog.built 28 [] = some (nums .u8 z32m).toArray := by kernel_rfl
theorem infoHS : (Try.prog.info? 28).map (·.size) = some 32 := by kernel_rfl
theorem nat_beq0 (n : Nat) : ((n : Int) == 0) = (n == 0) := by
  cases n <;> rfl
set_option maxHeartbeats 8000000 in
theorem none_calls {w : World} {bx : Nat} {a : MA} {m : MT} (f : Nat) (h : MBox w bx a m) (hf : f < 10) : Calls Try.prog 18 #[.pointer (some ⟨bx, 0, none⟩), .int .i64 (f : Int)] w fun e w' => e = .returned (.bool (noneM m f)) ∧ Below w.heap.size w w' := by
  obtain ⟨c0, c1, c34, c67, c68, c69, c70, c71, c72⟩ := h.cells
  have HST := Lib.hid h.stop
  have HBL := Lib.hid h.block
  have H1 := Lib.hid h.s32
  have H2 := Lib.hid h.b32
  have hz : z32m.length = 32 := rfl
  have q1 := fun u => eqH m.stop z32m h.s32 hz u
  have q2 := fun u => eqH m.block z32m h.b32 hz u
  have HI1 := Lib.hid (show (Try.prog.info? 28).map (·.size) = some (nums .u8 m.stop).length by rw [infoHS]; simp [nums, h.s32])
  have HI2 := Lib.hid (show (Try.prog.info? 28).map (·.size) = some (nums .u8 m.block).length by rw [infoHS]; simp [nums, h.b32])
  have HZ := Lib.hid built_hash
  have HU := Lib.hid Try.underlying28
  obtain ⟨kind, loc, stop, heads, block, item, data, ents, nonce, of_, code⟩ := m
  simp only at c0 c1 c34 c67 c68 c69 c70 c71 c72 HST HBL H1 H2 q1 q2 HI1 HI2
  unfold noneM
  obtain ⟨ZA, hZA⟩ : ∃ A, (nums .u8 z32m).toArray = A := ⟨_, rfl⟩
  obtain ⟨SL, hSL⟩ : ∃ A, nums .u8 stop = A := ⟨_, rfl⟩
  obtain ⟨BL, hBL⟩ : ∃ A, nums .u8 block = A := ⟨_, rfl⟩
  obtain ⟨Z, hZ⟩ : ∃ Z, z32m = Z := ⟨_, rfl⟩
  rw [hSL] at HST HI1
  rw [hBL] at HBL HI2
  rw [hZA] at HZ
  simp only [hZA, hSL, hBL] at q1 q2
  rw [hZ] at q1 q2 ⊢
  clear h hz hZA hSL hBL hZ H1 H2
  rcases ten hf with rfl | rfl | rfl | rfl | rfl | rfl | rfl | rfl | rfl | rfl
  all_goals
    clear hf
    go_enter Try.func18, Try.ntmps18
    go_wp2_with (first
      | ((with_reducible show wpList _ _ _ (Oper.mk _ (Op.build _ _) _ _ _ _ :: _) _ _); (go_loud (refine wpl_build rfl 28 _ rfl #[] (by simp [Act.eval]) ZA HZ.out ?_)))
      | ((with_reducible show wpList _ _ _ (Oper.mk _ (Op.load 28 (.tmp 18)) _ _ _ _ :: _) _ _); (go_loud (refine wpList_load_mid rfl 28 (.tmp 18) rfl bx 2 rfl SL _ HST.out HU.out rfl HI1.out ?_)))
      | ((with_reducible show wpList _ _ _ (Oper.mk _ (Op.load 28 (.tmp 41)) _ _ _ _ :: _) _ _); (go_loud (refine wpList_load_mid rfl 28 (.tmp 41) rfl bx 35 rfl BL _ HBL.out HU.out rfl HI2.out ?_))))
    go_ret
    refine ⟨?_, by first | exact Below.refl _ _ | exact pw_below_drewN (Below.refl _ _) _⟩
    first | rfl | simp [nat_beq0]
theorem leq_dec (n : Nat) (k : Nat) : decide ((n : Int) ≤ (k : Int)) = decide (n ≤ k) := by
  by_cases h : n ≤ k
  · rw [decide_eq_true h, decide_eq_true (by omega)]
  · rw [decide_eq_false h, decide_eq_false (by omega)]
theorem fitE_false {x : ET} (h : ¬ (x.tx.length ≤ 700 ∧ 0 ≤ x.cnt ∧ x.cnt ≤ 65536 ∧ 0 ≤ x.idx ∧ x.idx ≤ 65536 ∧ x.path.length ≤ 16)) : fitE x = false := decide_eq_false h
theorem fitE_true {x : ET} (h : (x.tx.length ≤ 700 ∧ 0 ≤ x.cnt ∧ x.cnt ≤ 65536 ∧ 0 ≤ x.idx ∧ x.idx ≤ 65536 ∧ x.path.length ≤ 16)) : fitE x = true := decide_eq_true h
set_option maxHeartbeats 4000000 in
theorem within_calls {w : World} (A : Option Addr) (n c : Nat) (xs : List ET) (hn : n = xs.length) (hr : Kd.C kE w A n xs) (hc : n ≤ c) : Calls Try.prog 38 #[.slice A n c] w fun e w' => e = .returned (.bool (decide (n ≤ 16) && xs.all fitE)) ∧ Below w.heap.size w w' := by
  have HR := Lib.hid hr
  have HN := Lib.hid hn
  have HC := Lib.hid hc
  by_cases h16 : 16 < n
  · have b1 : decide ((16 : Int) < (n : Int)) = true := decide_eq_true (by omega)
    have e : (decide (n ≤ 16) && xs.all fitE) = false := by rw [decide_eq_false (by omega)]; rfl
    rw [e]
    clear hn hr hc h16 e
    go_enter Try.func38, Try.ntmps38
    go_wp2_with fail
    go_ret
    exact ⟨rfl, Below.refl _ _⟩
  have b1 : decide ((16 : Int) < (n : Int)) = false := decide_eq_false (by omega)
  have H16 := Lib.hid (show n ≤ 16 by omega)
  have e : (decide (n ≤ 16) && xs.all fitE) = xs.all fitE := by rw [decide_eq_true (by omega)]; rfl
  rw [e]
  obtain ⟨AE, hae⟩ : ∃ b, xs.all fitE = b := ⟨_, rfl⟩
  rw [hae]
  have HAE := Lib.hid hae
  clear hn hr hc h16 e hae
  go_enter Try.func38, Try.ntmps38
  go_wp2_with fail
  go_loopw [10] (fun i wr => ∃ k : Int, 0 ≤ k ∧ k ≤ (n : Int) ∧ i = .int .i64 k ∧ Hid (Below w.heap.size w wr ∧ (xs.take k.toNat).all fitE = true)) (fun i _ => ((n : Int) - intOf i).toNat)
  case atStart => exact ⟨0, by omega, by omega, rfl, Lib.hid ⟨Below.refl _ _, by simp⟩⟩
  case round =>
    obtain ⟨k, hk0, hkn, rfl, H⟩ := hrel
    by_cases hlt : k < (n : Int)
    · obtain ⟨hb, hall⟩ := H.out
      obtain ⟨ad, A1, c1, A2, c2, rfl, x0, x1, x2, x3, l1, C1, l2, C2⟩ := at_E (Kd.C_below HR.out hb) k hk0 hlt
      have hlx : k < (xs.length : Int) := by have := HN.out; omega
      have HTK := Lib.hid (takeE hk0 hlx)
      have HMEM := Lib.hid (rdE_mem hk0 hlx)
      obtain ⟨⟨tx, cnt, idx, path⟩, hx⟩ : ∃ x, rdE xs k = x := ⟨_, rfl⟩
      rw [hx] at x0 x1 x2 x3 HTK HMEM
      simp only at x0 x1 x2 x3
      have wk : wrap64 (k + 1) = k + 1 := wrap64_id (by omega) (by have := H16.out; omega)
      have HBA := Lib.hid (hb.alloc hb.size (.cells #[.slice A1 tx.length c1, .int .i64 cnt, .int .i64 idx, .slice A2 path.length c2] 67))
      have HLT := Lib.hid hlt
      have HALL := Lib.hid hall
      clear hb hall hx l1 C1 l2 C2 H hlx
      by_cases hfit : tx.length ≤ 700 ∧ 0 ≤ cnt ∧ cnt ≤ 65536 ∧ 0 ≤ idx ∧ idx ≤ 65536 ∧ path.length ≤ 16
      · have HF := Lib.hid (fitE_true (x := ⟨tx, cnt, idx, path⟩) hfit)
        have g0 : decide ((700 : Int) < (tx.length : Int)) = false := decide_eq_false (by omega)
        have g1 : decide (cnt < 0) = false := decide_eq_false (by omega)
        have g2 : decide (65536 < cnt) = false := decide_eq_false (by omega)
        have g3 : decide (idx < 0) = false := decide_eq_false (by omega)
        have g4 : decide (65536 < idx) = false := decide_eq_false (by omega)
        have g5 : decide ((16 : Int) < (path.length : Int)) = false := decide_eq_false (by omega)
        clear hfit
        go_wp2_with fail
        go_roundw
        case rel => exact ⟨k + 1, by omega, by have := HLT.out; omega, by rw [wk], Lib.hid ⟨HBA.out, by rw [HTK.out, List.all_append, HALL.out]; simpa using HF.out⟩⟩
        case measure => simp [intOf]; have := HLT.out; omega
      · have HF := Lib.hid (fitE_false (x := ⟨tx, cnt, idx, path⟩) hfit)
        have HE : Hid (xs.all fitE = false) := Lib.hid (by rw [List.all_eq_false]; exact ⟨_, HMEM.out, by rw [HF.out]; simp⟩)
        have hae : AE = false := HAE.out.symm.trans HE.out
        clear HAE
        subst hae
        have way : 700 < tx.length ∨ (¬ 700 < tx.length ∧ cnt < 0) ∨ (¬ 700 < tx.length ∧ ¬ cnt < 0 ∧ 65536 < cnt) ∨ (¬ 700 < tx.length ∧ ¬ cnt < 0 ∧ ¬ 65536 < cnt ∧ idx < 0) ∨ (¬ 700 < tx.length ∧ ¬ cnt < 0 ∧ ¬ 65536 < cnt ∧ ¬ idx < 0 ∧ 65536 < idx) ∨ (¬ 700 < tx.length ∧ ¬ cnt < 0 ∧ ¬ 65536 < cnt ∧ ¬ idx < 0 ∧ ¬ 65536 < idx ∧ 16 < path.length) := by omega
        clear hfit
        rcases way with d0 | ⟨d0, d1⟩ | ⟨d0, d1, d2⟩ | ⟨d0, d1, d2, d3⟩ | ⟨d0, d1, d2, d3, d4⟩ | ⟨d0, d1, d2, d3, d4, d5⟩
        · have g0 : decide ((700 : Int) < (tx.length : Int)) = true := decide_eq_true (by omega)
          clear d0
          go_wp2_with fail
          go_ret
          exact ⟨rfl, HBA.out⟩
        · have g0 : decide ((700 : Int) < (tx.length : Int)) = false := decide_eq_false (by omega)
          have g1 : decide (cnt < 0) = true := decide_eq_true d1
          clear d0 d1
          go_wp2_with fail
          go_ret
          exact ⟨rfl, HBA.out⟩
        · have g0 : decide ((700 : Int) < (tx.length : Int)) = false := decide_eq_false (by omega)
          have g1 : decide (cnt < 0) = false := decide_eq_false d1
          have g2 : decide (65536 < cnt) = true := decide_eq_true d2
          clear d0 d1 d2
          go_wp2_with fail
          go_ret
          exact ⟨rfl, HBA.out⟩
        · have g0 : decide ((700 : Int) < (tx.length : Int)) = false := decide_eq_false (by omega)
          have g1 : decide (cnt < 0) = false := decide_eq_false d1
          have g2 : decide (65536 < cnt) = false := decide_eq_false d2
          have g3 : decide (idx < 0) = true := decide_eq_true d3
          clear d0 d1 d2 d3
          go_wp2_with fail
          go_ret
          exact ⟨rfl, HBA.out⟩
        · have g0 : decide ((700 : Int) < (tx.length : Int)) = false := decide_eq_false (by omega)
          have g1 : decide (cnt < 0) = false := decide_eq_false d1
          have g2 : decide (65536 < cnt) = false := decide_eq_false d2
          have g3 : decide (idx < 0) = false := decide_eq_false d3
          have g4 : decide (65536 < idx) = true := decide_eq_true d4
          clear d0 d1 d2 d3 d4
          go_wp2_with fail
          go_ret
          exact ⟨rfl, HBA.out⟩
        · have g0 : decide ((700 : Int) < (tx.length : Int)) = false := decide_eq_false (by omega)
          have g1 : decide (cnt < 0) = false := decide_eq_false d1
          have g2 : decide (65536 < cnt) = false := decide_eq_false d2
          have g3 : decide (idx < 0) = false := decide_eq_false d3
          have g4 : decide (65536 < idx) = false := decide_eq_false d4
          have g5 : decide ((16 : Int) < (path.length : Int)) = true := decide_eq_true (by omega)
          clear d0 d1 d2 d3 d4 d5
          go_wp2_with fail
          go_ret
          exact ⟨rfl, HBA.out⟩
    · obtain ⟨hb, hall⟩ := H.out
      have hkx : k.toNat = xs.length := by have := HN.out; omega
      rw [hkx, List.take_length] at hall
      have hae : AE = true := HAE.out.symm.trans hall
      clear HAE
      subst hae
      have HB := Lib.hid hb
      clear hb hall hkx H
      go_wp2_with fail
      go_ret
      exact ⟨rfl, HB.out⟩
set_option maxHeartbeats 8000000 in
theorem fits_calls {w : World} {bx : Nat} {a : MA} {m : MT} (f : Nat) (h : MBox w bx a m) (hm : MC w a m) (hf : f < 10) : Calls Try.prog 21 #[.pointer (some ⟨bx, 0, none⟩), .int .i64 (f : Int)] w fun e w' => e = .returned (.bool (fitM m f)) ∧ Below w.heap.size w w' := by
  obtain ⟨c0, c1, c34, c67, c68, c69, c70, c71, c72⟩ := h.cells
  have HM := Lib.hid hm
  obtain ⟨kind, loc, stop, heads, block, item, data, ents, nonce, of_, code⟩ := m
  simp only at c0 c1 c34 c67 c68 c69 c70 c71 c72 HM
  have HE := Lib.hid HM.out.ents
  have HEC := Lib.hid HM.out.ec
  simp only at HE HEC
  obtain ⟨ne, hne⟩ : ∃ n, ents.length = n := ⟨_, rfl⟩
  have HNE := Lib.hid hne
  rw [hne] at c69 HE HEC
  unfold fitM
  simp only
  rw [hne, show decide (loc.length ≤ 64) = decide ((loc.length : Int) ≤ 64) from (leq_dec _ 64).symm, show decide (heads.length ≤ 2000) = decide ((heads.length : Int) ≤ 2000) from (leq_dec _ 2000).symm, show decide (data.length ≤ 2048) = decide ((data.length : Int) ≤ 2048) from (leq_dec _ 2048).symm, show decide (item.length ≤ 64) = decide ((item.length : Int) ≤ 64) from (leq_dec _ 64).symm]
  clear h hm HM hne
  rcases ten hf with rfl | rfl | rfl | rfl | rfl | rfl | rfl | rfl | rfl | rfl
  case inr.inr.inr.inl =>
    clear hf
    by_cases h0 : 0 ≤ of_
    · have g0 : decide (0 ≤ of_) = true := decide_eq_true h0
      have e : decide (0 ≤ of_ ∧ of_ ≤ 255) = decide (of_ ≤ 255) := by simp [h0]
      simp only [e]
      clear h0 e
      go_enter Try.func21, Try.ntmps21
      go_wp2_with fail
      go_ret
      exact ⟨rfl, Below.refl _ _⟩
    · have g0 : decide (0 ≤ of_) = false := decide_eq_false h0
      have e : decide (0 ≤ of_ ∧ of_ ≤ 255) = false := by simp [h0]
      simp only [e]
      clear h0 e
      go_enter Try.func21, Try.ntmps21
      go_wp2_with fail
      go_ret
      exact ⟨rfl, Below.refl _ _⟩
  case inr.inr.inr.inr.inr.inr.inr.inl =>
    clear hf
    go_enter Try.func21, Try.ntmps21
    go_wp2_with fail
    refine (within_calls _ _ _ ents HNE.out.symm HE.out HEC.out).mono ?_
    rintro e w1 ⟨rfl, hb⟩
    have HB := Lib.hid hb
    clear hb
    go_wp2
    go_ret
    exact ⟨rfl, HB.out⟩
  case inr.inr.inr.inr.inr.inr.inr.inr.inr =>
    clear hf
    by_cases h0 : 0 ≤ code
    · have g0 : decide (0 ≤ code) = true := decide_eq_true h0
      have e : decide (0 ≤ code ∧ code ≤ 255) = decide (code ≤ 255) := by simp [h0]
      simp only [e]
      clear h0 e
      go_enter Try.func21, Try.ntmps21
      go_wp2_with fail
      go_ret
      exact ⟨rfl, Below.refl _ _⟩
    · have g0 : decide (0 ≤ code) = false := decide_eq_false h0
      have e : decide (0 ≤ code ∧ code ≤ 255) = false := by simp [h0]
      simp only [e]
      clear h0 e
      go_enter Try.func21, Try.ntmps21
      go_wp2_with fail
      go_ret
      exact ⟨rfl, Below.refl _ _⟩
  all_goals
    clear hf
    go_enter Try.func21, Try.ntmps21
    go_wp2_with fail
    go_ret
    refine ⟨?_, by first | exact Below.refl _ _ | exact pw_below_drewN (Below.refl _ _) _⟩
    rfl
end Go.Proofs.Ytfcmdhimlfoofaa.Hand
