/- A transaction's bytes, and back: the law TxnBytes, walked. -/
import Derived.Test.YtpjkhecefppamaaDoorProg
import Derived.Below
import Derived.Deep.Draws
import Derived.Deep.AppendLies
import Derived.Maps.AppendAt
import Derived.OwnWalk
import Derived.Laws.BytesArg
import Derived.Laws.MakeOwn
import Derived.Laws.OwnMore
import Derived.Deep.OwnRows
import Derived.Tactics
import Derived.Lib.ConvBytes
import Derived.Laws.Slices
import Derived.WalkKit
import Derived.KernelRfl
import Derived.RowKit3
import Derived.Deep.LoopGhost
import Derived.Deep.QuietTactic
import Derived.BigQuiet
import Derived.WideLaws
import Derived.Deep.DeepCutAuto
import Derived.Deep.CutBlock
import Derived.Deep.RegionHeld3
import Derived.Laws.Rows
import Derived.Lib.AppendStr
import Derived.ArgAppend
import Derived.Laws.IdiomCopy
import Derived.OrdersHeld
import Derived.Laws.BitsLemmas
import Derived.RowKit
import Derived.StillTailTactics
import Derived.Test.YtpjkhecefppamaaDoorWWords
import Derived.Test.YtpjkhecefppamaaDoorWLast
import Derived.Test.YtpjkhecefppamaaDoorWMore
import Derived.Lib.Hide
import Derived.Outline
import Derived.Deep.MidRow
import Derived.Deep.WholeRow
import Derived.Deep.DrawnRows
import Derived.Carry
import Derived.Test.YtpjkhecefppamaaDoorTxId
import Derived.Test.YtpjkhecefppamaaDoorTxA
import Derived.Test.YtpjkhecefppamaaDoorBytes
import Derived.Test.YtpjkhecefppamaaDoorParse
import Derived.Test.YtpjkhecefppamaaDoorShaB
namespace Go.Proofs.YtpjkhecefppamaaDoor.Hand
open Go Go.RowKit Go.Proofs.YtpjkhecefppamaaDoor.Plain Go.Proofs.YtpjkhecefppamaaDoor.PAll Go.Proofs.YtpjkhecefppamaaDoorW.PrintWords Go.Proofs.YtpjkhecefppamaaDoorW.PrintLast Go.Proofs.YtpjkhecefppamaaDoorW.PrintMore
set_option linter.unusedVariables false
set_option linter.unusedSimpArgs false
set_option maxRecDepth 100000
attribute [local go_sem ↓] Go.wp_at_zero Go.wp_at_succ
attribute [-go_sem] loadVar storeVar Instr.buildSlice
theorem infoTx : (Tryd.prog.info? 25).map (fun i => (i.zero, i.size)) = some (some (.agg #[.int .u64 0, .slice none 0 0]), 2) := by kernel_rfl
theorem eqH14 (S T : List Int) (hS : S.length = 32) (hT : T.length = 32) (w : World) : (Op.equalIn 10000 42 (.agg (nums .u8 S).toArray) (.agg (nums .u8 T).toArray)).run Tryd.prog w = .ok (S == T) w :=
  run_equalIn_nums (P := Tryd.prog) w 9998 42 5 32 .u8 Tryd.underlying42 Tryd.underlying5 (fun w => by rfl) S T hS hT
set_option maxHeartbeats 8000000 in
theorem bytes14_calls (salt : Int) (A : Option Addr) (c : Nat) (outs : List OutT) (w : World) (hs : 0 ≤ salt ∧ salt < 18446744073709551616) (hr : Kd.C k46 w A outs.length outs) (hc : outs.length ≤ c) (hv : ∀ o ∈ outs, 0 ≤ o.f0 ∧ o.f0 < 18446744073709551616) (hy : ∀ o ∈ outs, ∀ x ∈ o.f1, 0 ≤ x ∧ x < 256) (hK : KT w) :
    Calls Tryd.prog 3 #[.agg #[.int .u64 salt, .slice A outs.length c]] w fun e w' => e = .returned (.bool true) ∧ Below w.heap.size w w' := by
  have hk := heap_alloc_new w (.cells #[.int .u64 salt, .slice A outs.length c] 25)
  have hb := below_alloc (Below.refl w.heap.size w) (.cells #[.int .u64 salt, .slice A outs.length c] 25)
  obtain ⟨W0, hW0⟩ : ∃ W, w.alloc (.cells #[.int .u64 salt, .slice A outs.length c] 25) = W := ⟨_, rfl⟩
  rw [hW0] at hk hb
  have HI := Lib.hid (And.intro Tryd.underlying25 (zero_of_info infoTx).2)
  have HLD := Lib.hid (show ∀ u : World, Below W0.heap.size W0 u → (loadVar 25 ⟨w.heap.size, 0, none⟩).run Tryd.prog u = .ok (.agg #[.int .u64 salt, .slice A outs.length c]) u from fun u hu => run_loadVar_row (P := Tryd.prog) u w.heap.size 25 25 _ (0, 0) _ ((hu.block _ (blk_lt hk)).trans hk) HI.out.1 rfl HI.out.2)
  have HB0 := Lib.hid hb
  have HKW := Lib.hid hK
  have HW0 := Lib.hid hW0
  have HR := Lib.hid (Kd.C_below hr hb)
  have HC := Lib.hid hc
  have HSV := Lib.hid (And.intro hs (And.intro hv hy))
  have HSM := Lib.hid (mastheadlaw14_small.calls 21 salt A c outs (smallT outs) W0 HR.out hc (small_f salt outs))
  have HTO := Lib.hid (show ∀ u : World, Below W0.heap.size W0 u → Below w.heap.size w u from fun u hu => HB0.out.trans (Below.mono hu HB0.out.size))
  have HTR := Lib.hid (show ∀ u u' : World, Below W0.heap.size W0 u → Below u.heap.size u u' → Below W0.heap.size W0 u' from fun u u' hu hu' => hu.trans (Below.mono hu' hu.size))
  obtain ⟨n, hn⟩ : ∃ x, outs.length = x := ⟨_, rfl⟩
  have HN := Lib.hid hn
  have l0 := HLD.out W0 (Below.refl _ _)
  rw [hn] at HLD HSM l0 ⊢
  rw [hn] at hW0
  rw [← hW0] at l0
  have HW1 := Lib.hid hW0
  have HREF := Lib.hid (show ∀ (u : World) (A9 : Option Addr) (c9 : Nat), Kd.C k46 u A9 n outs → n ≤ c9 → n ≤ 20 → Calls Tryd.prog 8 #[.agg #[.int .u64 salt, .slice A9 n c9]] u fun e w' => ∃ A2 c2, e = .returned (.agg #[.int .u64 salt, .slice A2 n c2]) ∧ (Kd.C k57 w' A2 n (outs.map toO) ∧ n ≤ c2) ∧ Below u.heap.size u w' from fun u A9 c9 h1 h2 h3 => by
    rw [← hn] at h1 h2 h3 ⊢
    refine (mastheadlaw14_Ref.calls 21 salt A9 c9 outs salt (outs.map toO) u h1 h2 (ref_f salt outs (by omega) 21 (by omega))).mono ?_
    rintro e w' ⟨v, rfl, hv9, hb9⟩
    obtain ⟨A2, c2, rfl⟩ := Kd.R_slice hv9
    have h9 := Kd.R_reads' hv9
    rw [List.length_map] at h9 ⊢
    exact ⟨A2, c2, rfl, ⟨h9.2.2, h9.2.1⟩, hb9⟩)
  clear hk hb hK hW0 hr hc hs hv hy hn
  cases hsm : smallT outs with
  | false =>
    rw [hsm] at HSM
    clear hsm
    go_enter Tryd.func3, Tryd.ntmps3
    go_wp2_with fail
    rw [HW1.out]
    refine HSM.out.mono ?_
    rintro e w1 ⟨rfl, hb1⟩
    have HB1 := Lib.hid (HTO.out _ hb1)
    clear hb1 l0
    go_wp2_with fail
    refine (awake_calls _).mono ?_
    rintro e w2 ⟨rfl, hb2⟩
    have HB2 := Lib.hid (HB1.out.trans (Below.mono hb2 HB1.out.size))
    clear hb2
    go_wp2_with fail
    go_ret
    exact ⟨rfl, HB2.out⟩
  | true =>
    rw [hsm] at HSM
    have HSS := Lib.hid (show n ≤ 20 ∧ ∀ o ∈ outs, o.f1.length ≤ 200 from by
      unfold smallT at hsm
      rw [Bool.and_eq_true, List.all_eq_true] at hsm
      exact ⟨by have := of_decide_eq_true hsm.1; rw [HN.out] at this; exact this, fun o ho => of_decide_eq_true (hsm.2 o ho)⟩)
    clear hsm
    have HTB := Lib.hid (show ∀ u : World, Below W0.heap.size W0 u → Calls Tryd.prog 6 #[.agg #[.int .u64 salt, .slice A n c]] u fun e w' => ∃ A3 c3, e = .returned (.tuple #[.slice A3 (bytesV salt outs).length c3, .int .i64 (bytesE salt outs)]) ∧ (Kd.C (Kd.int .u8) w' A3 (bytesV salt outs).length (bytesV salt outs) ∧ (bytesV salt outs).length ≤ c3) ∧ Below u.heap.size u w' from fun u hu => by
      have h9 := tbytes_calls salt A c outs u HSV.out.1.1 (Kd.C_below HR.out hu) HC.out (fun o ho => (HSV.out.2.1 o ho).1) (by have := HN.out; have := HSS.out.1; omega)
      rw [HN.out] at h9
      refine h9.mono ?_
      rintro e w' ⟨v, rfl, hv9, hb9⟩
      obtain ⟨A3, c3, rfl⟩ := Kd.R_slice hv9
      have h8 := Kd.R_reads' hv9
      exact ⟨A3, c3, rfl, ⟨h8.2.2, h8.2.1⟩, hb9⟩)
    have HRB := Lib.hid (show ∀ (u : World) (A2 : Option Addr) (c2 : Nat), Kd.C k57 u A2 n (outs.map toO) ∧ n ≤ c2 → Calls Tryd.prog 7 #[.agg #[.int .u64 salt, .slice A2 n c2]] u fun e w' => e = .returned (.tuple #[.string (strOfNums (bytesV salt outs)), .int .i64 (bytesE salt outs)]) ∧ Below u.heap.size u w' from fun u A2 c2 h => by
      have hl : (outs.map toO).length = n := by rw [List.length_map, HN.out]
      rw [← hl] at h ⊢
      exact mastheadref14_Bytes.calls 30 salt A2 c2 (outs.map toO) _ _ u h.1 h.2 (rbytes14_tells salt outs HSV.out.1 HSV.out.2.1 (fun o ho => by have := HSS.out.2 o ho; omega) (by have := HN.out; have := HSS.out.1; omega)))
    have HSA := Lib.hid (show ∀ (u : World) (A2 A3 : Option Addr) (c2 c3 : Nat), Kd.C k57 u A2 n (outs.map toO) ∧ n ≤ c2 → Kd.C k57 u A3 n (outs.map toO) ∧ n ≤ c3 → Calls Tryd.prog 10 #[.agg #[.int .u64 salt, .slice A2 n c2], .agg #[.int .u64 salt, .slice A3 n c3]] u fun e w' => e = .returned (.bool true) ∧ Below u.heap.size u w' from fun u A2 A3 c2 c3 h2 h3 => by
      have hl : (outs.map toO).length = n := by rw [List.length_map, HN.out]
      have hsf := same_f (outs.map toO) salt (by rw [hl]; have := HSS.out.1; omega)
      rw [← hl] at h2 h3 ⊢
      exact mastheadref14_Same.calls _ salt A2 c2 (outs.map toO) salt A3 c3 (outs.map toO) true u h2.1 h2.2 h3.1 h3.2 hsf)
    have HVE := Lib.hid (show bytesE salt outs = 0 → bytesV salt outs = txB salt outs from fun h => by unfold bytesV; rw [if_pos h])
    have HTX := Lib.hid (show bytesE salt outs = 0 → parseE (txB salt outs) = 0 ∧ parseS (txB salt outs) = salt ∧ parseO (txB salt outs) = outs from fun h => tx_front HSV.out.1 HSV.out.2.1 h)
    have HBY := Lib.hid (show (∀ x ∈ txB salt outs, 0 ≤ x ∧ x < 256) ∧ (txB salt outs).length ≤ 100000 from by
      constructor
      · intro x hx
        unfold txB headB at hx
        rcases List.mem_append.1 hx with hx | hx
        · rcases List.mem_append.1 hx with hx | hx
          · rcases List.mem_append.1 hx with hx | hx
            · exact digs_bytes _ _ x hx
            · exact digs_bytes _ _ x hx
          · exact varB_bytes _ x hx
        · rw [List.mem_flatMap] at hx
          obtain ⟨o, ho, hx⟩ := hx
          unfold outTB at hx
          rcases List.mem_append.1 hx with hx | hx
          · exact digs_bytes _ _ x hx
          · rcases List.mem_append.1 hx with hx | hx
            · exact varB_bytes _ x hx
            · exact HSV.out.2.2 o ho x hx
      · have hal : ∀ l : List OutT, (∀ o ∈ l, o.f1.length ≤ 200) → (l.flatMap outTB).length ≤ 300 * l.length := by
          intro l
          induction l with
          | nil => intro _; simp
          | cons o l ih =>
            intro h
            have h1 := h o (by simp)
            have h2 := ih (fun x hx => h x (by simp [hx]))
            have h3 := varB_len o.f1.length
            have h4 : (outTB o).length ≤ 300 := by unfold outTB; rw [List.length_append, List.length_append, digs_length]; omega
            rw [List.flatMap_cons, List.length_append, List.length_cons]
            omega
        have h1 := hal outs HSS.out.2
        have h2 := headB_len salt outs.length
        have h3 := HN.out
        have h4 := HSS.out.1
        unfold txB
        rw [List.length_append]
        omega)
    obtain ⟨E, hE⟩ : ∃ x, bytesE salt outs = x := ⟨_, rfl⟩
    obtain ⟨V, hV⟩ : ∃ x, bytesV salt outs = x := ⟨_, rfl⟩
    obtain ⟨TX, hTX⟩ : ∃ x, txB salt outs = x := ⟨_, rfl⟩
    rw [hE, hV] at HTB HRB HVE
    rw [hE] at HTX
    rw [hTX] at HVE HTX HBY
    clear hE hV hTX
    obtain ⟨nv, hnv⟩ : ∃ x, V.length = x := ⟨_, rfl⟩
    rw [hnv] at HTB
    have HNV := Lib.hid hnv
    clear hnv
    go_enter Tryd.func3, Tryd.ntmps3
    go_wp2_with fail
    rw [HW1.out]
    refine HSM.out.mono ?_
    rintro e w1 ⟨rfl, hb1⟩
    have HB1 := Lib.hid hb1
    have HTB1 := Lib.hid (HTB.out w1 hb1)
    clear l0
    have l0 := HLD.out w1 hb1
    clear hb1
    go_wp2_with fail
    refine HTB1.out.mono ?_
    rintro e w2 ⟨A3, c3, rfl, hC3, hb2⟩
    have HB2 := Lib.hid (HTR.out _ _ HB1.out hb2)
    have HC3 := Lib.hid hC3
    clear l0 hC3 hb2 HTB1
    have l0 := HLD.out w2 HB2.out
    have HRF2 := Lib.hid (HREF.out w2 A c (by rw [← HN.out]; exact Kd.C_below HR.out HB2.out) (by rw [← HN.out]; exact HC.out) HSS.out.1)
    go_wp2_with fail
    refine HRF2.out.mono ?_
    rintro e w3 ⟨A4, c4, rfl, hC4, hb3⟩
    have HB3 := Lib.hid (HTR.out _ _ HB2.out hb3)
    have HC4 := Lib.hid (And.intro (Kd.C_below HC3.out.1 hb3) hC4)
    have HRB3 := Lib.hid (HRB.out w3 A4 c4 hC4)
    clear l0 hC4 hb3 HRF2
    go_wp2_with fail
    refine HRB3.out.mono ?_
    rintro e w4 ⟨rfl, hb4⟩
    have HB4 := Lib.hid (HTR.out _ _ HB3.out hb4)
    have HC5 := Lib.hid (Kd.C_below HC4.out.1 hb4)
    clear hb4 HRB3
    have g1 : (convert 28 9 (.slice A3 nv c3)).run Tryd.prog w4 = .ok (.string (strOfNums V)) w4 := by
      have h9 := Kd.C_string (P := Tryd.prog) (c := c3) Tryd.underlying28 Tryd.underlying5 Tryd.underlying9 (show Kd.C (Kd.int .u8) w4 A3 V.length V by rw [HNV.out]; exact HC5.out)
      rw [HNV.out] at h9
      exact h9
    obtain ⟨sV, hsV⟩ : ∃ x, strOfNums V = x := ⟨_, rfl⟩
    rw [hsV] at g1 ⊢
    have HSTR := Lib.hid hsV
    have ee1 : (sV.toList == sV.toList) = true := by rw [beq_iff_eq]
    have ee2 : (E == E) = true := by rw [beq_iff_eq]
    clear hsV
    by_cases hE0 : E = 0
    · subst hE0
      have hVT := HVE.out rfl
      obtain ⟨p1, p2, p3⟩ := HTX.out rfl
      subst hVT
      have HPA := Lib.hid (show Calls Tryd.prog 9 #[.slice A3 nv c3] w4 fun e w' => ∃ A9 c9, e = .returned (.tuple #[.agg #[.int .u64 salt, .slice A9 n c9], .int .i64 0]) ∧ (Kd.C k46 w' A9 n outs ∧ n ≤ c9) ∧ Below w4.heap.size w4 w' from by
        have h9 := tparse_calls A3 c3 V w4 (by rw [HNV.out]; exact HC5.out) (by rw [HNV.out]; exact HC3.out.2) HBY.out.1 (by have := HBY.out.2; omega)
        rw [p1, p2, p3, HNV.out] at h9
        refine h9.mono ?_
        rintro e w' ⟨v, rfl, hv9, hb9⟩
        obtain ⟨A9, c9, rfl⟩ := Kd.R_slice hv9
        have h8 := Kd.R_reads' hv9
        rw [HN.out] at h8 ⊢
        exact ⟨A9, c9, rfl, ⟨h8.2.2, h8.2.1⟩, hb9⟩)
      clear p1 p2 p3
      go_wp2_with fail
      refine HPA.out.mono ?_
      rintro e w5 ⟨A9, c9, rfl, hC9, hb5⟩
      have HB5 := Lib.hid (HTR.out _ _ HB4.out hb5)
      have HC9 := Lib.hid (And.intro hC9.1 (And.intro hC9.2 (Kd.C_below HC5.out hb5)))
      clear hC9 hb5 HPA g1 ee1 ee2
      have HZT := (zero_of_info infoTx).1
      obtain ⟨g7, hg7⟩ : ∃ x, w5.heap.size = x := ⟨_, rfl⟩
      have k7 := heap_alloc_new w5 (.cells #[.int .u64 salt, .slice A9 n c9] 25)
      have hb6 := below_alloc (Below.refl w5.heap.size w5) (.cells #[.int .u64 salt, .slice A9 n c9] 25)
      obtain ⟨W6, hW6⟩ : ∃ W, w5.alloc (.cells #[.int .u64 salt, .slice A9 n c9] 25) = W := ⟨_, rfl⟩
      rw [hW6] at k7 hb6
      rw [hg7] at k7
      have HK7 := Lib.hid k7
      have HW6 := Lib.hid (And.intro hW6 hg7)
      have HB6 := Lib.hid (HTR.out _ _ HB5.out hb6)
      have HC6 := Lib.hid (And.intro (Kd.C_below HC9.out.1 hb6) (And.intro HC9.out.2.1 (Kd.C_below HC9.out.2.2 hb6)))
      clear k7 hW6 hg7 hb6
      go_wp2_with ((with_reducible show wpList _ _ _ (Oper.mk _ (Op.store _ (.tmp 7) _) _ _ _ _ :: _) _ _); (go_loud (refine wpl_store_new rfl 25 (.tmp 7) (.tmp 39) rfl #[.int .u64 0, .slice none 0 0] #[.int .u64 salt, .slice A9 n c9] rfl rfl HI.out.2 rfl (by simp [Value.oneCell']) ?_); rw [HW6.out.1, HW6.out.2]))
      have HV0 := Lib.hid (show ∀ u : World, Below W6.heap.size W6 u → Below W0.heap.size W0 u from fun u hu => HB6.out.trans (Below.mono hu HB6.out.size))
      have HVR := Lib.hid (show ∀ u u' : World, Below W6.heap.size W6 u → Below u.heap.size u u' → Below W6.heap.size W6 u' from fun u u' hu hu' => hu.trans (Below.mono hu' hu.size))
      have HSS2 := Lib.hid (show ∀ u : World, Below W6.heap.size W6 u → (loadVar 25 ⟨w.heap.size, 0, none⟩).run Tryd.prog u = .ok (.agg #[.int .u64 salt, .slice A n c]) u ∧ (loadVar 25 ⟨g7, 0, none⟩).run Tryd.prog u = .ok (.agg #[.int .u64 salt, .slice A9 n c9]) u from fun u hu => ⟨HLD.out u (HV0.out u hu), run_loadVar_row (P := Tryd.prog) u g7 25 25 _ (0, 0) _ ((hu.block _ (blk_lt HK7.out)).trans HK7.out) HI.out.1 rfl HI.out.2⟩)
      have HID := Lib.hid (show ∀ u : World, Below W6.heap.size W6 u → Calls Tryd.prog 11 #[.slice A3 nv c3] u fun e w' => e = .returned (.agg (nums .u8 (twiceP V)).toArray) ∧ Below u.heap.size u w' from fun u hu => id_calls A3 nv c3 V u HNV.out.symm HC3.out.2 (Kd.C_below HC6.out.2.2 hu) HBY.out.1 (by have := HBY.out.2; omega) (HKW.out.below (HTO.out _ (HV0.out u hu)) (Nat.le_refl _)))
      have HRT := Lib.hid (show ∀ u : World, Calls Tryd.prog 12 #[.string sV] u fun e w' => e = .returned (.agg (nums .u8 (twiceP V)).toArray) ∧ Below u.heap.size u w' from fun u => by
        have h9 := rtwice_calls V u (by have := HBY.out.2; omega) HBY.out.1
        rw [HSTR.out] at h9
        exact h9)
      have HR1 := Lib.hid (show ∀ u : World, Below W6.heap.size W6 u → Calls Tryd.prog 8 #[.agg #[.int .u64 salt, .slice A9 n c9]] u fun e w' => ∃ A2 c2, e = .returned (.agg #[.int .u64 salt, .slice A2 n c2]) ∧ (Kd.C k57 w' A2 n (outs.map toO) ∧ n ≤ c2) ∧ Below u.heap.size u w' from fun u hu => HREF.out u A9 c9 (Kd.C_below HC6.out.1 hu) HC6.out.2.1 HSS.out.1)
      have HR2 := Lib.hid (show ∀ u : World, Below W6.heap.size W6 u → Calls Tryd.prog 8 #[.agg #[.int .u64 salt, .slice A n c]] u fun e w' => ∃ A2 c2, e = .returned (.agg #[.int .u64 salt, .slice A2 n c2]) ∧ (Kd.C k57 w' A2 n (outs.map toO) ∧ n ≤ c2) ∧ Below u.heap.size u w' from fun u hu => HREF.out u A c (by have h9 := Kd.C_below HR.out (HV0.out u hu); rw [HN.out] at h9; exact h9) (by rw [← HN.out]; exact HC.out) HSS.out.1)
      have hl32 : (twiceP V).length = 32 := sumP_len _
      obtain ⟨T, hT⟩ : ∃ x, twiceP V = x := ⟨_, rfl⟩
      rw [hT] at hl32 HID HRT
      have q0 := fun u => eqH14 T T hl32 hl32 u
      simp only [beq_self_eq_true] at q0
      obtain ⟨TC, hTC⟩ : ∃ x, nums .u8 T = x := ⟨_, rfl⟩
      rw [hTC] at q0 HID HRT
      have HBD := Lib.hid (below_drew (Below.refl W6.heap.size W6))
      have hHeld := HSS2.out _ HBD.out
      clear hl32 hT hTC
      refine wp_region_held (S := fun u => (loadVar 25 ⟨w.heap.size, 0, none⟩).run Tryd.prog u = .ok (.agg #[.int .u64 salt, .slice A n c]) u ∧ (loadVar 25 ⟨g7, 0, none⟩).run Tryd.prog u = .ok (.agg #[.int .u64 salt, .slice A9 n c9]) u) (by kernel_rfl) ?_
      change wpAnyH _ _ _ _ _ _ _ _ (World.drew _)
      refine wpAnyH_take (i := 0) (oi := ({ dst := some 41, op := Op.move (Operand.tmp 8), type := 29, pos := "law.go:54", after := #[], guard := none } : Oper)) (v := .int .i64 0) rfl (by kernel_rfl) (by kernel_rfl) (by kernel_rfl) (fun _ _ _ h => h) (Or.inl ⟨by rfl, fun w hSw => by go_simp⟩) hHeld ?_
      simp only [Act.put, List.setIfInBounds_toArray, List.set_cons_zero, List.set_cons_succ]
      refine wpAnyH_take (i := 1) (oi := ({ dst := some 42, op := Op.binOp BinOp.eql 29 (Operand.tmp 41) (Operand.const (Value.int IntKind.i64 0)) 29, type := 4, pos := "law.go:54", after := #[{ on := 0, ground := Ground.data }], guard := none } : Oper)) (v := .bool true) rfl (by kernel_rfl) (by kernel_rfl) (by kernel_rfl) (fun _ _ _ h => h) (Or.inl ⟨by rfl, fun w hSw => by go_simp⟩) hHeld ?_
      simp only [Act.put, List.setIfInBounds_toArray, List.set_cons_zero, List.set_cons_succ]
      refine wpAnyH_take (i := 2) (oi := ({ dst := some 43, op := Op.move (Operand.tmp 42), type := 4, pos := "law.go:54", after := #[{ on := 1, ground := Ground.data }], guard := none } : Oper)) (v := .bool true) rfl (by kernel_rfl) (by kernel_rfl) (by kernel_rfl) (fun _ _ _ h => h) (Or.inl ⟨by rfl, fun w hSw => by go_simp⟩) hHeld ?_
      simp only [Act.put, List.setIfInBounds_toArray, List.set_cons_zero, List.set_cons_succ]
      refine wpAnyH_take (i := 3) (oi := ({ dst := some 44, op := Op.load 25 (Operand.tmp 7), type := 25, pos := "law.go:54", after := #[{ on := 2, ground := Ground.guard }], guard := some (2, true) } : Oper)) (v := .agg #[.int .u64 salt, .slice A9 n c9]) rfl (by kernel_rfl) (by kernel_rfl) (by kernel_rfl) (fun _ _ _ h => h) (Or.inl ⟨by rfl, fun w hSw => by obtain ⟨z0, z1⟩ := hSw; go_simp⟩) hHeld ?_
      simp only [Act.put, List.setIfInBounds_toArray, List.set_cons_zero, List.set_cons_succ]
      refine wpAnyH_take (i := 5) (oi := ({ dst := some 46, op := Op.load 25 (Operand.tmp 1), type := 25, pos := "law.go:54", after := #[{ on := 2, ground := Ground.guard }], guard := some (2, true) } : Oper)) (v := .agg #[.int .u64 salt, .slice A n c]) rfl (by kernel_rfl) (by kernel_rfl) (by kernel_rfl) (fun _ _ _ h => h) (Or.inl ⟨by rfl, fun w hSw => by obtain ⟨z0, z1⟩ := hSw; go_simp⟩) hHeld ?_
      simp only [Act.put, List.setIfInBounds_toArray, List.set_cons_zero, List.set_cons_succ]
      refine wpAnyH_ready (rs := [4]) (by kernel_rfl) (by simp) ?_
      refine AllReadyH.cons (o := ({ dst := some 45, op := Op.call { callee := Callee.value (Operand.func 8), args := #[Operand.tmp 44], argTypes := #[25] }, type := 36, pos := "law.go:54", after := #[{ on := 3, ground := Ground.data }, { on := 2, ground := Ground.chain }, { on := 2, ground := Ground.guard }], guard := some (2, true) } : Oper)) rfl (fun K hK => ?_) AllReadyH.nil
      go_simp
      (with_reducible refine (HR1.out _ HBD.out).mono ?_)
      rintro e z1 ⟨B1, d1, rfl, hC1, hb1⟩
      have HZ1 := Lib.hid (HVR.out _ _ HBD.out hb1)
      have HD1 := Lib.hid hC1
      clear hC1 hb1
      go_wp2_with fail
      refine hK.out _ _ (HSS2.out _ HZ1.out) (fun hHeld => ?_)
      clear hK K
      try simp only [Act.put, List.setIfInBounds_toArray, List.set_cons_zero, List.set_cons_succ]
      refine wpAnyH_ready (rs := [6]) (by kernel_rfl) (by simp) ?_
      refine AllReadyH.cons (o := ({ dst := some 47, op := Op.call { callee := Callee.value (Operand.func 8), args := #[Operand.tmp 46], argTypes := #[25] }, type := 36, pos := "law.go:54", after := #[{ on := 5, ground := Ground.data }, { on := 4, ground := Ground.chain }, { on := 2, ground := Ground.guard }], guard := some (2, true) } : Oper)) rfl (fun K hK => ?_) AllReadyH.nil
      go_simp
      (with_reducible refine (HR2.out _ HZ1.out).mono ?_)
      rintro e z2 ⟨B2, d2, rfl, hC2, hb2⟩
      have HZ2 := Lib.hid (HVR.out _ _ HZ1.out hb2)
      have HD2 := Lib.hid (And.intro (And.intro (Kd.C_below HD1.out.1 hb2) HD1.out.2) hC2)
      clear hC2 hb2
      go_wp2_with fail
      refine hK.out _ _ (HSS2.out _ HZ2.out) (fun hHeld => ?_)
      clear hK K
      try simp only [Act.put, List.setIfInBounds_toArray, List.set_cons_zero, List.set_cons_succ]
      refine wpAnyH_ready (rs := [7]) (by kernel_rfl) (by simp) ?_
      refine AllReadyH.cons (o := ({ dst := some 48, op := Op.call { callee := Callee.value (Operand.func 10), args := #[Operand.tmp 45, Operand.tmp 47], argTypes := #[36, 36] }, type := 4, pos := "law.go:54", after := #[{ on := 4, ground := Ground.data }, { on := 6, ground := Ground.data }, { on := 6, ground := Ground.chain }, { on := 2, ground := Ground.guard }], guard := some (2, true) } : Oper)) rfl (fun K hK => ?_) AllReadyH.nil
      go_simp
      (with_reducible refine (HSA.out _ B1 B2 d1 d2 HD2.out.1 HD2.out.2).mono ?_)
      rintro e z3 ⟨rfl, hb3⟩
      have HZ3 := Lib.hid (HVR.out _ _ HZ2.out hb3)
      clear hb3
      go_wp2_with fail
      refine hK.out _ _ (HSS2.out _ HZ3.out) (fun hHeld => ?_)
      clear hK K
      try simp only [Act.put, List.setIfInBounds_toArray, List.set_cons_zero, List.set_cons_succ]
      refine wpAnyH_take (i := 8) (oi := ({ dst := some 49, op := Op.pick (Operand.tmp 43) (Operand.tmp 48) (Operand.const (Value.bool false)), type := 4, pos := "law.go:54", after := #[{ on := 2, ground := Ground.data }, { on := 7, ground := Ground.data }], guard := none } : Oper)) (v := .bool true) rfl (by kernel_rfl) (by kernel_rfl) (by kernel_rfl) (fun _ _ _ h => h) (Or.inl ⟨by rfl, fun w hSw => by go_simp⟩) hHeld ?_
      simp only [Act.put, List.setIfInBounds_toArray, List.set_cons_zero, List.set_cons_succ]
      refine wpAnyH_take (i := 9) (oi := ({ dst := some 50, op := Op.move (Operand.tmp 49), type := 4, pos := "law.go:54", after := #[{ on := 8, ground := Ground.data }, { on := 7, ground := Ground.chain }], guard := none } : Oper)) (v := .bool true) rfl (by kernel_rfl) (by kernel_rfl) (by kernel_rfl) (fun _ _ _ h => h) (Or.inl ⟨by rfl, fun w hSw => by go_simp⟩) hHeld ?_
      simp only [Act.put, List.setIfInBounds_toArray, List.set_cons_zero, List.set_cons_succ]
      refine wpAnyH_take (i := 10) (oi := ({ dst := some 51, op := Op.move (Operand.tmp 3), type := 28, pos := "law.go:54", after := #[{ on := 9, ground := Ground.guard }], guard := some (9, true) } : Oper)) (v := .slice A3 nv c3) rfl (by kernel_rfl) (by kernel_rfl) (by kernel_rfl) (fun _ _ _ h => h) (Or.inl ⟨by rfl, fun w hSw => by go_simp⟩) hHeld ?_
      simp only [Act.put, List.setIfInBounds_toArray, List.set_cons_zero, List.set_cons_succ]
      refine wpAnyH_take (i := 12) (oi := ({ dst := some 53, op := Op.move (Operand.tmp 5), type := 9, pos := "law.go:54", after := #[{ on := 9, ground := Ground.guard }], guard := some (9, true) } : Oper)) (v := .string sV) rfl (by kernel_rfl) (by kernel_rfl) (by kernel_rfl) (fun _ _ _ h => h) (Or.inl ⟨by rfl, fun w hSw => by go_simp⟩) hHeld ?_
      simp only [Act.put, List.setIfInBounds_toArray, List.set_cons_zero, List.set_cons_succ]
      refine wpAnyH_ready (rs := [11]) (by kernel_rfl) (by simp) ?_
      refine AllReadyH.cons (o := ({ dst := some 52, op := Op.call { callee := Callee.value (Operand.func 11), args := #[Operand.tmp 51], argTypes := #[28] }, type := 42, pos := "law.go:54", after := #[{ on := 10, ground := Ground.data }, { on := 9, ground := Ground.chain }, { on := 9, ground := Ground.guard }], guard := some (9, true) } : Oper)) rfl (fun K hK => ?_) AllReadyH.nil
      go_simp
      (with_reducible refine (HID.out _ HZ3.out).mono ?_)
      rintro e z4 ⟨rfl, hb4⟩
      have HZ4 := Lib.hid (HVR.out _ _ HZ3.out hb4)
      clear hb4
      go_wp2_with fail
      refine hK.out _ _ (HSS2.out _ HZ4.out) (fun hHeld => ?_)
      clear hK K
      try simp only [Act.put, List.setIfInBounds_toArray, List.set_cons_zero, List.set_cons_succ]
      refine wpAnyH_ready (rs := [13]) (by kernel_rfl) (by simp) ?_
      refine AllReadyH.cons (o := ({ dst := some 54, op := Op.call { callee := Callee.value (Operand.func 12), args := #[Operand.tmp 53], argTypes := #[9] }, type := 41, pos := "law.go:54", after := #[{ on := 12, ground := Ground.data }, { on := 11, ground := Ground.chain }, { on := 9, ground := Ground.guard }], guard := some (9, true) } : Oper)) rfl (fun K hK => ?_) AllReadyH.nil
      go_simp
      (with_reducible refine (HRT.out _).mono ?_)
      rintro e z5 ⟨rfl, hb5⟩
      have HZ5 := Lib.hid (HVR.out _ _ HZ4.out hb5)
      clear hb5
      go_wp2_with fail
      refine hK.out _ _ (HSS2.out _ HZ5.out) (fun hHeld => ?_)
      clear hK K
      try simp only [Act.put, List.setIfInBounds_toArray, List.set_cons_zero, List.set_cons_succ]
      refine wpAnyH_take (i := 14) (oi := ({ dst := some 55, op := Op.binOp BinOp.eql 42 (Operand.tmp 52) (Operand.tmp 54) 42, type := 4, pos := "law.go:54", after := #[{ on := 11, ground := Ground.data }, { on := 13, ground := Ground.data }, { on := 9, ground := Ground.guard }], guard := some (9, true) } : Oper)) (v := .bool true) rfl (by kernel_rfl) (by kernel_rfl) (by kernel_rfl) (fun _ _ _ h => h) (Or.inl ⟨by rfl, fun w hSw => by go_simp⟩) hHeld ?_
      simp only [Act.put, List.setIfInBounds_toArray, List.set_cons_zero, List.set_cons_succ]
      refine wpAnyH_take (i := 15) (oi := ({ dst := some 56, op := Op.pick (Operand.tmp 50) (Operand.tmp 55) (Operand.const (Value.bool false)), type := 4, pos := "law.go:54", after := #[{ on := 9, ground := Ground.data }, { on := 14, ground := Ground.data }], guard := none } : Oper)) (v := .bool true) rfl (by kernel_rfl) (by kernel_rfl) (by kernel_rfl) (fun _ _ _ h => h) (Or.inl ⟨by rfl, fun w hSw => by go_simp⟩) hHeld ?_
      simp only [Act.put, List.setIfInBounds_toArray, List.set_cons_zero, List.set_cons_succ]
      refine wpAnyH_take (i := 16) (oi := ({ dst := some 57, op := Op.move (Operand.tmp 56), type := 4, pos := "law.go:54", after := #[{ on := 15, ground := Ground.data }, { on := 13, ground := Ground.chain }], guard := none } : Oper)) (v := .bool true) rfl (by kernel_rfl) (by kernel_rfl) (by kernel_rfl) (fun _ _ _ h => h) (Or.inl ⟨by rfl, fun w hSw => by go_simp⟩) hHeld ?_
      simp only [Act.put, List.setIfInBounds_toArray, List.set_cons_zero, List.set_cons_succ]
      refine wpAnyH_ready (rs := [17]) (by kernel_rfl) (by simp) ?_
      refine AllReadyH.cons (o := ({ dst := some 58, op := Op.call { callee := Callee.value (Operand.func 5), args := #[], argTypes := #[] }, type := 4, pos := "law.go:54", after := #[{ on := 16, ground := Ground.chain }, { on := 16, ground := Ground.guard }], guard := some (16, true) } : Oper)) rfl (fun K hK => ?_) AllReadyH.nil
      go_simp
      (with_reducible refine (awake_calls _).mono ?_)
      rintro e z6 ⟨rfl, hb6⟩
      have HZ6 := Lib.hid (HVR.out _ _ HZ5.out hb6)
      clear hb6
      go_wp2_with fail
      refine hK.out _ _ (HSS2.out _ HZ6.out) (fun hHeld => ?_)
      clear hK K
      try simp only [Act.put, List.setIfInBounds_toArray, List.set_cons_zero, List.set_cons_succ]
      refine wpAnyH_take (i := 18) (oi := ({ dst := some 59, op := Op.pick (Operand.tmp 57) (Operand.tmp 58) (Operand.const (Value.bool false)), type := 4, pos := "law.go:54", after := #[{ on := 16, ground := Ground.data }, { on := 17, ground := Ground.data }], guard := none } : Oper)) (v := .bool true) rfl (by kernel_rfl) (by kernel_rfl) (by kernel_rfl) (fun _ _ _ h => h) (Or.inl ⟨by rfl, fun w hSw => by go_simp⟩) hHeld ?_
      simp only [Act.put, List.setIfInBounds_toArray, List.set_cons_zero, List.set_cons_succ]
      refine wpAnyH_take (i := 19) (oi := ({ dst := some 2, op := Op.assign (Operand.tmp 59), type := 4, pos := "law.go:54", after := #[{ on := 18, ground := Ground.data }, { on := 17, ground := Ground.chain }, { on := 0, ground := Ground.phase }, { on := 1, ground := Ground.phase }, { on := 2, ground := Ground.phase }, { on := 3, ground := Ground.phase }, { on := 4, ground := Ground.phase }, { on := 5, ground := Ground.phase }, { on := 6, ground := Ground.phase }, { on := 7, ground := Ground.phase }, { on := 8, ground := Ground.phase }, { on := 9, ground := Ground.phase }, { on := 10, ground := Ground.phase }, { on := 11, ground := Ground.phase }, { on := 12, ground := Ground.phase }, { on := 13, ground := Ground.phase }, { on := 14, ground := Ground.phase }, { on := 15, ground := Ground.phase }, { on := 16, ground := Ground.phase }, { on := 17, ground := Ground.phase }, { on := 18, ground := Ground.phase }], guard := none } : Oper)) (v := .bool true) rfl (by kernel_rfl) (by kernel_rfl) (by kernel_rfl) (fun _ _ _ h => h) (Or.inl ⟨by rfl, fun w hSw => by go_simp⟩) hHeld ?_
      simp only [Act.put, List.setIfInBounds_toArray, List.set_cons_zero, List.set_cons_succ]
      refine wpAnyH_done (by kernel_rfl) ?_ _
      clear hHeld q0
      go_wp2
      go_ret
      exact ⟨rfl, HTO.out _ (HV0.out _ HZ6.out)⟩
    · have x1 : (E == 0) = false := by rw [beq_eq_false_iff_ne]; exact hE0
      clear hE0
      go_wp2_with fail
      refine (awake_calls _).mono ?_
      rintro e w8 ⟨rfl, hb8⟩
      have HB8 := Lib.hid (HTR.out _ _ HB4.out hb8)
      clear hb8
      go_wp2_with fail
      go_ret
      exact ⟨rfl, HTO.out _ HB8.out⟩
end Go.Proofs.YtpjkhecefppamaaDoor.Hand
