/- TxnNever: walked. -/
import Derived.Test.YtpjkhecefppamaaProg
import Derived.Below
import Derived.Deep.Draws
import Derived.Deep.AppendLies
import Derived.Maps.AppendAt
import Derived.OwnWalk
import Derived.Laws.BytesArg
import Derived.Laws.MakeOwn
import Derived.Laws.OwnMore
import Derived.Deep.OwnRows
import Derived.Tactics
import Derived.Lib.ConvBytes
import Derived.Laws.Slices
import Derived.WalkKit
import Derived.KernelRfl
import Derived.RowKit3
import Derived.Deep.LoopGhost
import Derived.Deep.QuietTactic
import Derived.BigQuiet
import Derived.WideLaws
import Derived.Deep.DeepCutAuto
import Derived.Deep.CutBlock
import Derived.Deep.RegionHeld3
import Derived.Laws.Rows
import Derived.Lib.AppendStr
import Derived.ArgAppend
import Derived.Laws.IdiomCopy
import Derived.OrdersHeld
import Derived.Laws.BitsLemmas
import Derived.RowKit
import Derived.StillTailTactics
import Derived.Test.YtpjkhecefppamaaWWords
import Derived.Test.YtpjkhecefppamaaWLast
import Derived.Test.YtpjkhecefppamaaWMore
import Derived.Lib.Hide
import Derived.LaidEql
import Derived.Outline
import Derived.Test.YtpjkhecefppamaaArrays
import Derived.Test.YtpjkhecefppamaaAwake
import Derived.Test.YtpjkhecefppamaaSmall
import Derived.Test.YtpjkhecefppamaaParse64
namespace Go.Proofs.Ytpjkhecefppamaa.Hand
open Go Go.RowKit Go.Proofs.Ytpjkhecefppamaa.Plain Go.Proofs.Ytpjkhecefppamaa.PAll Go.Proofs.YtpjkhecefppamaaW.PrintWords Go.Proofs.YtpjkhecefppamaaW.PrintLast Go.Proofs.YtpjkhecefppamaaW.PrintMore
set_option linter.unusedVariables false
set_option linter.unusedSimpArgs false
/-- No transaction's bytes are 64. -/
theorem never_plain (salt : Int) (outs : List OutT) : bytesE salt outs ≠ 0 ∨ (bytesV salt outs).length ≠ 64 := by
  by_cases h : bytesE salt outs = 0
  · right
    unfold bytesV
    rw [if_pos h]
    intro h64
    unfold bytesE at h
    rw [if_pos h64] at h
    revert h
    split
    · decide
    · split
      · decide
      · decide
  · exact .inl h
set_option maxHeartbeats 4000000 in
set_option maxRecDepth 100000 in
theorem never_calls (salt : Int) (A : Option Addr) (c : Nat) (outs : List OutT) (bs : List Int) (w : World) (hs : 0 ≤ salt) (hr : Kd.C k54 w A outs.length outs) (hc : outs.length ≤ c) (hv : ∀ o ∈ outs, 0 ≤ o.f0) (hm : outs.length ≤ 9223372036854775807) (h64 : bs.length = 64) (hb : ∀ x ∈ bs, 0 ≤ x ∧ x < 256) :
    Calls Try.prog 5 #[.agg #[.int .u64 salt, .slice A outs.length c], .agg (nums .u8 bs).toArray] w fun e w' => e = .returned (.bool true) ∧ Below w.heap.size w w' := by
  have HR := Lib.hid hr
  have HC := Lib.hid hc
  have HBY := Lib.hid hb
  have H64 := Lib.hid h64
  obtain ⟨cs, hcs⟩ : ∃ cs, (nums .u8 bs).toArray = cs := ⟨_, rfl⟩
  rw [hcs]
  have HCS := Lib.hid hcs
  obtain ⟨W2, hW2⟩ : ∃ W2, (w.alloc (.cells #[.int .u64 salt, .slice A outs.length c] 25)).alloc (.cells cs 51) = W2 := ⟨_, rfl⟩
  have HB0 : Hid (Below w.heap.size w W2) := Lib.hid (by rw [← hW2]; exact below_alloc (below_alloc (Below.refl _ _) _) _)
  have HBOX : Hid (∀ w2, Below W2.heap.size W2 w2 → w2.cell? ⟨w.heap.size, 0, none⟩ = some (.int .u64 salt) ∧ w2.cell? ⟨w.heap.size, 1, none⟩ = some (.slice A outs.length c)) := Lib.hid fun w2 hb => by
    have hnew : W2.heap[w.heap.size]? = some (.cells #[.int .u64 salt, .slice A outs.length c] 25 (0, 0)) := by
      rw [← hW2]
      exact blk_alloc (by simpa using heap_alloc_new w _) _
    have h2 := (hb.block w.heap.size (blk_lt hnew)).trans hnew
    exact ⟨(blk_cell h2 0).trans rfl, (blk_cell h2 1).trans rfl⟩
  have HARR : Hid (∀ w2, Below W2.heap.size W2 w2 → Kd.C (Kd.int .u8) w2 (some ⟨w.heap.size + 1, 0, none⟩) 64 bs) := Lib.hid fun w2 hb => by
    have hnew : W2.heap[w.heap.size + 1]? = some (.cells cs 51 (0, 0)) := by
      rw [← hW2]
      have := heap_alloc_new (w.alloc (.cells #[.int .u64 salt, .slice A outs.length c] 25)) (.cells cs 51)
      rwa [World.size_alloc] at this
    have h2 := (hb.block _ (blk_lt hnew)).trans hnew
    have h3 := C_of_block (pre := []) (post := []) (k := .u8) (ys := bs) (o := 0) (w := w2) (b := w.heap.size + 1) (t := 51) (fr := (0, 0)) (by rw [h2, ← HCS.out]; simp) rfl (by have := H64.out; omega)
    rwa [H64.out] at h3
  have HSM := Lib.hid (mastheadlaw14_small.calls 21 salt A c outs (smallT outs) W2 (Kd.C_below HR.out HB0.out) HC.out (small_f salt outs))
  have HBC : Hid (∀ w2, Below W2.heap.size W2 w2 → Calls Try.prog 16 #[.agg #[.int .u64 salt, .slice A outs.length c]] w2 fun e w' => ∃ v, e = .returned (.tuple #[v, .int .i64 (bytesE salt outs)]) ∧ Kd.R (Kd.int .u8) 5 w' w2.heap.size (fun _ => True) v (bytesV salt outs) ∧ Below w2.heap.size w2 w') := Lib.hid fun w2 hb => tbytes_calls salt A c outs w2 hs (Kd.C_below HR.out (HB0.out.trans (Below.mono hb HB0.out.size))) HC.out hv hm
  have HPA : Hid (∀ w2, Below W2.heap.size W2 w2 → Calls Try.prog 13 #[.slice (some ⟨w.heap.size + 1, 0, none⟩) 64 64] w2 fun e w' => e = .returned (.tuple #[.agg #[.int .u64 0, .slice none 0 0], .int .i64 3]) ∧ Below w2.heap.size w2 w') := Lib.hid fun w2 hb => tparse64 _ 64 bs w2 H64.out (HARR.out w2 hb) (by decide) HBY.out
  have HNP := Lib.hid (never_plain salt outs)
  have HW2 := Lib.hid hW2
  obtain ⟨E, hE⟩ : ∃ E, bytesE salt outs = E := ⟨_, rfl⟩
  obtain ⟨V, hV⟩ : ∃ V, bytesV salt outs = V := ⟨_, rfl⟩
  obtain ⟨r, hrr⟩ : ∃ r, smallT outs = r := ⟨_, rfl⟩
  rw [hE, hV] at HBC HNP
  rw [hrr] at HSM
  clear hr hc hv hm h64 hb hcs hs hW2 hE hV hrr
  obtain ⟨y0, y1⟩ := HBOX.out W2 (Below.refl _ _)
  go_enter Try.func5, Try.ntmps5
  go_wp2_with fail
  rw [HW2.out]
  with_reducible refine HSM.out.mono ?_
  rintro e w3 ⟨rfl, hb3⟩
  have HB3 := Lib.hid hb3
  clear hb3 y0 y1 HSM
  cases r with
  | false =>
    go_wp2_with fail
    refine (awake_calls _).mono ?_
    rintro e w4 ⟨rfl, hb4⟩
    have HB4 := Lib.hid (HB0.out.trans ((Below.mono HB3.out HB0.out.size).trans (Below.mono hb4 (Nat.le_trans HB0.out.size HB3.out.size))))
    clear hb4
    go_wp2
    go_ret
    exact ⟨rfl, HB4.out⟩
  | true =>
    go_wp2_with fail
    with_reducible refine (HPA.out _ HB3.out).mono ?_
    rintro e w4 ⟨rfl, hb4⟩
    have HB4 := Lib.hid (HB3.out.trans (Below.mono hb4 HB3.out.size))
    have HB5 := Lib.hid (below_alloc HB4.out (.cells #[.int .u64 0, .slice none 0 0] 25))
    obtain ⟨y0, y1⟩ := HBOX.out _ HB5.out
    clear hb4
    go_wp2_with fail
    with_reducible refine (HBC.out _ HB5.out).mono ?_
    rintro e w5 ⟨v, rfl, hv, hb5⟩
    obtain ⟨A5, c5, rfl⟩ := Kd.R_slice hv
    have HB6 := Lib.hid (HB0.out.trans (Below.mono (HB5.out.trans (Below.mono hb5 HB5.out.size)) HB0.out.size))
    have HNP2 := HNP.out
    obtain ⟨L, hL⟩ : ∃ L, V.length = L := ⟨_, rfl⟩
    rw [hL] at HNP2 ⊢
    clear hv hb5 hL HNP y0 y1
    by_cases hE : E = 0
    · have hL64 : L ≠ 64 := by
        rcases HNP2 with h | h
        · exact absurd hE h
        · exact h
      have l1 : ((L : Int) = 64) = False := eq_false (by omega)
      have l2 : ((L : Int) == 64) = false := by simp; omega
      have l3 : ((L : Int) != 64) = true := by simp; omega
      subst hE
      clear HNP2 hL64
      go_wp2_with fail
      refine (awake_calls _).mono ?_
      rintro e w6 ⟨rfl, hb6⟩
      have HB7 := Lib.hid (HB6.out.trans (Below.mono hb6 HB6.out.size))
      clear hb6
      go_wp2
      go_ret
      exact ⟨rfl, HB7.out⟩
    · have l1 : (E = 0) = False := eq_false hE
      have l2 : (E == 0) = false := by simpa using hE
      have l3 : (E != 0) = true := by simpa using hE
      clear HNP2 hE
      go_wp2_with fail
      refine (awake_calls _).mono ?_
      rintro e w6 ⟨rfl, hb6⟩
      have HB7 := Lib.hid (HB6.out.trans (Below.mono hb6 HB6.out.size))
      clear hb6
      go_wp2
      go_ret
      exact ⟨rfl, HB7.out⟩
end Go.Proofs.Ytpjkhecefppamaa.Hand
