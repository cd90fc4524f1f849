/- The codec's writer: what its methods do to the writer in memory. -/
import Derived.Test.YtfcmdhimlfoofaaProg
import Derived.Below
import Derived.Deep.Draws
import Derived.Deep.AppendLies
import Derived.Maps.AppendAt
import Derived.OwnWalk
import Derived.Laws.BytesArg
import Derived.Laws.MakeOwn
import Derived.Laws.OwnMore
import Derived.Deep.OwnRows
import Derived.Tactics
import Derived.Lib.ConvBytes
import Derived.Laws.Slices
import Derived.WalkKit
import Derived.KernelRfl
import Derived.RowKit3
import Derived.Deep.LoopGhost
import Derived.Deep.QuietTactic
import Derived.BigQuiet
import Derived.WideLaws
import Derived.Deep.DeepCutAuto
import Derived.Deep.CutBlock
import Derived.Deep.RegionHeld3
import Derived.Laws.Rows
import Derived.Lib.AppendStr
import Derived.ArgAppend
import Derived.Laws.IdiomCopy
import Derived.OrdersHeld
import Derived.Laws.BitsLemmas
import Derived.RowKit
import Derived.StillTailTactics
import Derived.Test.YtfcmdhimlfoofaaWWords
import Derived.Test.YtfcmdhimlfoofaaWLast
import Derived.Test.YtfcmdhimlfoofaaWMore
import Derived.Lib.Hide
import Derived.Outline
import Derived.Deep.RegionLaw
import Derived.Test.YtfcmdhimlfoofaaKeeps
import Derived.Test.YtfcmdhimlfoofaaClone
import Derived.Test.YtfcmdhimlfoofaaOctet
import Derived.Test.YtfcmdhimlfoofaaByteRows
import Derived.Test.YtfcmdhimlfoofaaWZeros
namespace Go.Proofs.Ytfcmdhimlfoofaa.Hand
open Go Go.RowKit Go.Proofs.Ytfcmdhimlfoofaa.Plain Go.Proofs.Ytfcmdhimlfoofaa.PAll Go.Proofs.YtfcmdhimlfoofaaW.PrintWords Go.Proofs.YtfcmdhimlfoofaaW.PrintLast Go.Proofs.YtfcmdhimlfoofaaW.PrintMore
set_option linter.unusedVariables false
set_option linter.unusedSimpArgs false
/-- A writer at block g (its memory from B on): its bytes. -/
def IsC (w : World) (B g : Nat) (bs : List Int) : Prop := B ≤ g ∧ ∃ v, w.heap[g]? = some (.cells #[v] 94 (0, 0)) ∧ Kd.R (Kd.int .u8) 5 w B (fun _ => True) v bs
theorem IsC.cells {w : World} {B g : Nat} {bs : List Int} (h : IsC w B g bs) : g < w.heap.size ∧ ∃ A c, (w.cell? ⟨g, 0, none⟩ = some (.slice A bs.length c) ∧ w.frozen? ⟨g, 0, none⟩ = false) ∧ w.heap[g]? = some (.cells #[.slice A bs.length c] 94 (0, 0)) ∧ Kd.R (Kd.int .u8) 5 w B (fun _ => True) (.slice A bs.length c) bs := by
  obtain ⟨hB, v, hg, hR⟩ := h
  obtain ⟨A, c, rfl⟩ := Kd.R_slice hR
  refine ⟨by rw [Array.getElem?_eq_some_iff] at hg; exact hg.1, A, c, ⟨?_, ?_⟩, hg, hR⟩
  all_goals simp [World.cell?, World.frozen?, hg]
theorem IsC.field {w1 : World} {B g : Nat} {bs : List Int} {v v1 : Value} (hB : B ≤ g) (ho : Kd.R (Kd.int .u8) 5 w1 B (fun _ => True) v1 bs) (hg : w1.heap[g]? = some (.cells #[v] 94 (0, 0))) : IsC (w1.setCell ⟨g, 0, none⟩ v1) B g bs := by
  refine ⟨hB, v1, ?_, Kd.R_set ho hg (by decide) 0 v1⟩
  have hlt : g < w1.heap.size := by rw [Array.getElem?_eq_some_iff] at hg; exact hg.1
  simp [World.setCell, Array.getElem?_modify, hg]
theorem IsC.lt {w : World} {B g : Nat} {bs : List Int} (h : IsC w B g bs) : g < w.heap.size := h.cells.1
theorem IsC.below {w w' : World} {B g : Nat} {bs : List Int} (h : IsC w B g bs) (hb : Below w.heap.size w w') : IsC w' B g bs := by
  have hlt := h.cells.1
  obtain ⟨hB, v, hg, hR⟩ := h
  exact ⟨hB, v, (hb.block g hlt).trans hg, Kd.R_below hR hb⟩
theorem IsC.drew {w : World} {B g : Nat} {bs : List Int} (h : IsC w B g bs) : IsC w.drew B g bs := h.below (below_drew (Below.refl _ _))
theorem IsC.drewN {w : World} {B g : Nat} {bs : List Int} (h : IsC w B g bs) (n : Nat) : IsC (w.drewN n) B g bs := h.below (pw_below_drewN (Below.refl _ _) n)
theorem IsC.alloc {w : World} {B g : Nat} {bs : List Int} (h : IsC w B g bs) (o : Obj) : IsC (w.alloc o) B g bs := h.below (below_alloc (Below.refl _ _) o)
theorem cnew_calls (w : World) : Calls Try.prog 19 #[] w fun e w' => e = .returned (.pointer (some ⟨w.heap.size, 0, none⟩)) ∧ IsC w' w.heap.size w.heap.size [] ∧ Below w.heap.size w w' := by
  go_enter Try.func19, Try.ntmps19
  go_wp2
  go_ret
  exact ⟨rfl, ⟨Nat.le_refl _, _, by simpa using heap_alloc_new w _, Kd.R_nil _ _ _ _ _⟩, below_alloc (Below.refl _ _) _⟩
theorem cbytes_calls {w : World} {B g : Nat} {bs : List Int} (h : IsC w B g bs) (hl : bs.length ≤ 10000000) :
    Calls Try.prog 23 #[.pointer (some ⟨g, 0, none⟩)] w fun e w' => ∃ v : Value, e = .returned v ∧ Kd.R (Kd.int .u8) 5 w' w.heap.size (fun _ => True) v bs ∧ Below w.heap.size w w' := by
  obtain ⟨hlt, A, c, ⟨h0, _⟩, _, hR⟩ := h.cells
  obtain ⟨_, _, he, hc, hC⟩ := Kd.R_reads hR
  injection he with ha _ hcc
  subst ha hcc
  have HC := Lib.hid hC
  have HCL := Lib.hid hc
  have HN : bs.length < 140737488355328 := by omega
  clear hR hC hc hl
  go_enter Try.func23, Try.ntmps23
  go_wp2_with (go_at_call 44; refine (clone_calls A _ c bs _ rfl HC.out HCL.out HN).mono ?_; rintro e w1 ⟨v, rfl, hv, hb⟩; have HV := Lib.hid hv; have HB := Lib.hid hb; clear hv hb)
  go_ret
  exact ⟨_, rfl, HV.out, HB.out⟩
theorem IsC.row {w : World} {B g k : Nat} {bs : List Int} {cells : Array Value} {t : TypeId} {fr : Nat × Nat} (h : IsC w B g bs) (hb : w.heap[k]? = some (.cells cells t fr)) (ht : t ≠ 5) : some k ≠ rowAt w g := by
  obtain ⟨hlt, A, c, ⟨h0, _⟩, hg, hR⟩ := h.cells
  rw [rowAt_of h0]
  intro e
  obtain ⟨inner, hown⟩ := Kd.R_own hR
  obtain ⟨cells', hc⟩ := own_typed hown k e.symm
  rw [hb] at hc
  injection hc with hc
  injection hc with _ hc2
  exact ht hc2
theorem IsC.rowB {w : World} {B g k : Nat} {bs : List Int} (h : IsC w B g bs) (hk : k < B) : k ≠ g ∧ some k ≠ rowAt w g := by
  obtain ⟨hlt, A, c, ⟨h0, _⟩, hg, hR⟩ := h.cells
  have hB := h.1
  refine ⟨by omega, ?_⟩
  rw [rowAt_of h0]
  intro e
  have := Kd.R_base hR k e.symm
  omega
theorem IsC.rowlt {w : World} {B g : Nat} {bs : List Int} (h : IsC w B g bs) : ∀ k, rowAt w g = some k → k < w.heap.size := by
  obtain ⟨hlt, A, c, ⟨h0, _⟩, hg, hR⟩ := h.cells
  rw [rowAt_of h0]
  exact Kd.R_lt hR
/-- What another block's change leaves. -/
theorem IsC.but {w w1 : World} {B g g' : Nat} {bs : List Int} (h : IsC w B g bs) (hk : KeepBut w w1 g' none) (hg : g' < B) : IsC w1 B g bs := by
  have hlt := h.cells.1
  obtain ⟨hB, v, hb, hR⟩ := h
  refine ⟨hB, v, (hk.2 g hlt (by omega) (by simp)).trans hb, ?_⟩
  refine Kd.R_mono (Kd.R_step (Kd.R_bound hR) (fun k hk' hlt' => hk.2 k hlt' (by have := hk'.2.1; omega) (by simp))) (fun _ _ => trivial)
theorem IsC.butrow {w w1 : World} {B g g' : Nat} {bs : List Int} (h : IsC w B g bs) (hk : KeepBut w w1 g' none) (hg : g' < B) : rowAt w1 g = rowAt w g := by
  unfold rowAt
  rw [World.cell?_of_block (w := w) (hk.2 g h.cells.1 (by have := h.1; omega) (by simp))]
/-- Behind an append to the writer's bytes: the field is stored. -/
theorem IsC.grown {w0 w w1 : World} {B g c : Nat} {A : Option Addr} {bs bs' : List Int} {v1 : Value} (hB : B ≤ g) (hg : w.heap[g]? = some (.cells #[.slice A bs.length c] 94 (0, 0)))
    (hR : Kd.R (Kd.int .u8) 5 w B (fun _ => True) (.slice A bs.length c) bs) (ho : Kd.R (Kd.int .u8) 5 w1 B (fun _ => True) v1 bs') (hb : Below B w0 w1) (hg1 : w.grownBy w1 (Value.slice A bs.length c).ownBlock)
    (hat : v1.ownBlock = (Value.slice A bs.length c).ownBlock ∨ ∃ b, v1.ownBlock = some b ∧ w.heap.size ≤ b) :
    ∃ A1 n1 c1, v1 = .slice A1 n1 c1 ∧ w1.frozen? ⟨g, 0, none⟩ = false ∧ w1.cell? ⟨g, 0, none⟩ = some (.slice A bs.length c) ∧ IsC (w1.setCell ⟨g, 0, none⟩ (.slice A1 n1 c1)) B g bs' ∧ Below B w0 (w1.setCell ⟨g, 0, none⟩ (.slice A1 n1 c1)) ∧ CKeep w (w1.setCell ⟨g, 0, none⟩ (.slice A1 n1 c1)) g := by
  have hlt : g < w.heap.size := blk_lt hg
  have hne := Kd.R_ne hR hg (by decide)
  have hgb := (hg1.block g hlt hne).trans hg
  obtain ⟨A1, c1, rfl⟩ := Kd.R_slice ho
  have hr0 : rowAt w g = (Value.slice A bs.length c).ownBlock := rowAt_of (by simp [World.cell?, hg])
  have hIs := IsC.field hB ho hgb
  have hr1 : rowAt (w1.setCell ⟨g, 0, none⟩ (.slice A1 bs'.length c1)) g = (Value.slice A1 bs'.length c1).ownBlock := rowAt_of ((blk_cell (blk_set hgb 0 _) 0).trans rfl)
  refine ⟨A1, bs'.length, c1, rfl, by simp [World.frozen?, hgb], by simp [World.cell?, hgb], hIs, hb.setCell (p := ⟨g, 0, none⟩) hB _, by rw [World.size_setCell]; exact hg1.size, fun k hk hkg hkr => ?_, ?_⟩
  · rw [Below.heap_setCell w1 ⟨g, 0, none⟩ _ k hkg]
    exact hg1.block k hk (by rw [← hr0]; exact hkr)
  · rw [hr0, hr1]
    rcases hat with hat | ⟨b, hat, hle⟩
    · exact .inl hat
    · exact .inr fun k hk => by rw [hat] at hk; injection hk with hk; omega
set_option maxHeartbeats 4000000 in
set_option maxRecDepth 100000 in
theorem cnum_calls {w : World} {B g : Nat} {bs : List Int} (n : Nat) (a : Int) (h : IsC w B g bs) (hl : bs.length ≤ 1000000) :
    Calls Try.prog 20 #[.pointer (some ⟨g, 0, none⟩), .int .u64 n, .int .i64 a] w fun e w' => e = .returned (.tuple #[]) ∧ IsC w' B g (bs ++ digs (wid a) n) ∧ Below B w w' ∧ CKeep w w' g := by
  have HLI := Lib.hid (little_tells n a 20 (by omega))
  obtain ⟨ds, hds⟩ : ∃ ds, digs (wid a) n = ds := ⟨_, rfl⟩
  have hdl : ds.length ≤ 8 := by rw [← hds, digs_length]; exact wid_le a
  rw [hds] at HLI
  rw [hds]
  have HDL := Lib.hid hdl
  have HL := Lib.hid hl
  have hB : B ≤ g := h.1
  have HW := Lib.hid h
  obtain ⟨hlt, A, c, ⟨h0, f0⟩, hg, hR⟩ := h.cells
  have HG := Lib.hid hg
  have HR := Lib.hid hR
  have HKEEP := Lib.hid (show ∀ w1 : World, Below w.heap.size w w1 → w1.heap[g]? = some (.cells #[.slice A bs.length c] 94 (0, 0)) ∧ Kd.R (Kd.int .u8) 5 w1 B (fun _ => True) (.slice A bs.length c) bs ∧ w1.cell? ⟨g, 0, none⟩ = some (.slice A bs.length c) ∧ w1.frozen? ⟨g, 0, none⟩ = false from fun w1 hb => by
    have hg1 := (hb.block g hlt).trans hg
    exact ⟨hg1, Kd.R_below hR hb, by simp [World.cell?, hg1], by simp [World.frozen?, hg1]⟩)
  have HLT := Lib.hid hlt
  have HLE := Lib.hid (show B ≤ w.heap.size by omega)
  have HB1LE : ∀ {w1 : World}, Below w.heap.size w w1 → B ≤ w1.heap.size := fun hb => Nat.le_trans HLE.out hb.size
  clear h hl hg hR hds hdl
  go_enter Try.func20, Try.ntmps20
  go_wp2_with fail
  go_region_law (first
           | (go_simp; go_at_call 37; refine (octet_Little.calls 20 n a ds _ HLI.out).mono ?_; rintro e w1 ⟨v1, rfl, hv1, hb1⟩; replace hb1 := below_of_drew hb1; obtain ⟨A1, c1, rfl, hc1, hC1⟩ := Kd.R_reads hv1; obtain ⟨hg1, hR1, h1, f1⟩ := HKEEP.out w1 hb1; have HC1 := Lib.hid hC1; have HB1 := Lib.hid hb1; have HG1 := Lib.hid hg1; have HR1 := Lib.hid hR1; clear hv1 hc1 hC1 hb1 hg1 hR1)
           | (refine Kd.R_append_rows_step (Kd.int .u8) (w0 := w) B (by rfl) (.tmp 10) (.tmp 13) 23 5 (.int .u8 0) 1 (by rfl) Try.underlying23 info5 rfl (by decide) (by omega) (.slice A bs.length c) bs ds _ _ _ (fun _ => True) (fun _ => False) (by rfl) (by rfl) HR1.out HC1.out (fun _ _ h => h) (fun _ h => h.elim) (fun _ _ => trivial) (Below.mono HB1.out HLE.out) (HB1LE HB1.out) (by have := HL.out; have := HDL.out; omega) ?_; intro v2 w2 ho2 hb2 hg2 hat2; obtain ⟨A2, n2, c2, rfl, f2, h2, hW2, hB2, hK2⟩ := IsC.grown (w0 := w) hB HG1.out HR1.out ho2 hb2 hg2 hat2; have HW2 := Lib.hid hW2; have HB2 := Lib.hid hB2; have HK2 := Lib.hid hK2; clear ho2 hb2 hg2 hat2 hW2 hB2 hK2))
  all_goals (go_end0; exact ⟨rfl, HW2.out, HB2.out, ((CKeep.refl w g).below HLT.out HB1.out).trans HK2.out⟩)
theorem cnum_int {w : World} {B g : Nat} {bs : List Int} (x a : Int) (hx : 0 ≤ x) (h : IsC w B g bs) (hl : bs.length ≤ 1000000) :
    Calls Try.prog 20 #[.pointer (some ⟨g, 0, none⟩), .int .u64 x, .int .i64 a] w fun e w' => e = .returned (.tuple #[]) ∧ IsC w' B g (bs ++ digs (wid a) x.toNat) ∧ Below B w w' ∧ CKeep w w' g := by
  obtain ⟨n, rfl⟩ := Int.eq_ofNat_of_zero_le hx
  exact cnum_calls n a h hl
/-- A count's bytes. -/
def varB (n : Nat) : List Int := if n < 253 then digs 1 n else if n ≤ 65535 then digs 1 253 ++ digs 2 n else if n ≤ 4294967295 then digs 1 254 ++ digs 4 n else digs 1 255 ++ digs 8 n
theorem varB_length (n : Nat) : (varB n).length ≤ 9 := by
  unfold varB
  repeat' split
  all_goals simp [digs_length]
theorem varB_bytes (n : Nat) : ∀ x ∈ varB n, 0 ≤ x ∧ x < 256 := by
  unfold varB
  repeat' split
  · exact digs_bytes _ _
  all_goals
    intro x hx
    rcases List.mem_append.1 hx with hx | hx
    · exact digs_bytes _ _ x hx
    · exact digs_bytes _ _ x hx
set_option maxHeartbeats 1000000 in
set_option maxRecDepth 100000 in
theorem cvar_calls {w : World} {B g : Nat} {bs : List Int} (n : Nat) (h : IsC w B g bs) (hl : bs.length ≤ 999000) :
    Calls Try.prog 41 #[.pointer (some ⟨g, 0, none⟩), .int .u64 n] w fun e w' => e = .returned (.tuple #[]) ∧ IsC w' B g (bs ++ varB n) ∧ Below B w w' ∧ CKeep w w' g := by
  have HW := Lib.hid h
  have HL := Lib.hid hl
  clear h hl
  by_cases c1 : n < 253
  · have f1 : decide ((n : Int) < 253) = true := decide_eq_true (by omega)
    have HV : Hid (varB n = digs 1 n) := Lib.hid (by unfold varB; rw [if_pos c1])
    clear c1
    go_enter Try.func41, Try.ntmps41
    go_wp2_with fail
    refine (cnum_calls n 1 HW.out (by have := HL.out; omega)).mono ?_
    rintro e w1 ⟨rfl, hw, hb, hk⟩
    have HW1 := Lib.hid hw
    have HB := Lib.hid hb
    have HK := Lib.hid hk
    clear hw hb hk
    go_wp2
    go_end0
    exact ⟨rfl, by rw [HV.out]; exact HW1.out, HB.out, HK.out⟩
  · have f1 : decide ((n : Int) < 253) = false := decide_eq_false (by omega)
    have two : ∀ (x a : Int) (m p : Nat), 0 ≤ x → varB n = digs 1 x.toNat ++ digs (wid a) n → Hid (varB n = digs (wid 1) x.toNat ++ digs (wid a) n) := fun x a m p _ h => Lib.hid h
    have LEN : ∀ x : Int, Hid ((bs ++ digs (wid 1) x.toNat).length ≤ 1000000) := fun x => Lib.hid (by have := HL.out; have := wid_le 1; simp [digs_length]; omega)
    by_cases c2 : n ≤ 65535
    · have f2 : decide ((n : Int) ≤ 65535) = true := decide_eq_true (by omega)
      have HV := two 253 2 0 0 (by decide) (by unfold varB; rw [if_neg c1, if_pos c2]; rfl)
      clear c1 c2 two
      go_enter Try.func41, Try.ntmps41
      go_wp2_with fail
      refine (cnum_int 253 1 (by decide) HW.out (by have := HL.out; omega)).mono ?_
      rintro e w1 ⟨rfl, hw, hb, hk⟩
      have HW1 := Lib.hid hw
      have HB := Lib.hid hb
      have HK := Lib.hid hk
      clear hw hb hk
      go_wp2_with fail
      refine (cnum_calls n 2 HW1.out (LEN _).out).mono ?_
      rintro e w2 ⟨rfl, hw, hb, hk⟩
      have HW2 := Lib.hid hw
      have HB2 := Lib.hid (HB.out.trans hb)
      have HK2 := Lib.hid (HK.out.trans hk)
      clear hw hb hk
      go_wp2
      go_end0
      exact ⟨rfl, by rw [HV.out, ← List.append_assoc]; exact HW2.out, HB2.out, HK2.out⟩
    · have f2 : decide ((n : Int) ≤ 65535) = false := decide_eq_false (by omega)
      by_cases c3 : n ≤ 4294967295
      · have f3 : decide ((n : Int) ≤ 4294967295) = true := decide_eq_true (by omega)
        have HV := two 254 4 0 0 (by decide) (by unfold varB; rw [if_neg c1, if_neg c2, if_pos c3]; rfl)
        clear c1 c2 c3 two
        go_enter Try.func41, Try.ntmps41
        go_wp2_with fail
        refine (cnum_int 254 1 (by decide) HW.out (by have := HL.out; omega)).mono ?_
        rintro e w1 ⟨rfl, hw, hb, hk⟩
        have HW1 := Lib.hid hw
        have HB := Lib.hid hb
        have HK := Lib.hid hk
        clear hw hb hk
        go_wp2_with fail
        refine (cnum_calls n 4 HW1.out (LEN _).out).mono ?_
        rintro e w2 ⟨rfl, hw, hb, hk⟩
        have HW2 := Lib.hid hw
        have HB2 := Lib.hid (HB.out.trans hb)
        have HK2 := Lib.hid (HK.out.trans hk)
        clear hw hb hk
        go_wp2
        go_end0
        exact ⟨rfl, by rw [HV.out, ← List.append_assoc]; exact HW2.out, HB2.out, HK2.out⟩
      · have f3 : decide ((n : Int) ≤ 4294967295) = false := decide_eq_false (by omega)
        have HV := two 255 8 0 0 (by decide) (by unfold varB; rw [if_neg c1, if_neg c2, if_neg c3]; rfl)
        clear c1 c2 c3 two
        go_enter Try.func41, Try.ntmps41
        go_wp2_with fail
        refine (cnum_int 255 1 (by decide) HW.out (by have := HL.out; omega)).mono ?_
        rintro e w1 ⟨rfl, hw, hb, hk⟩
        have HW1 := Lib.hid hw
        have HB := Lib.hid hb
        have HK := Lib.hid hk
        clear hw hb hk
        go_wp2_with fail
        refine (cnum_calls n 8 HW1.out (LEN _).out).mono ?_
        rintro e w2 ⟨rfl, hw, hb, hk⟩
        have HW2 := Lib.hid hw
        have HB2 := Lib.hid (HB.out.trans hb)
        have HK2 := Lib.hid (HK.out.trans hk)
        clear hw hb hk
        go_wp2
        go_end0
        exact ⟨rfl, by rw [HV.out, ← List.append_assoc]; exact HW2.out, HB2.out, HK2.out⟩
set_option maxHeartbeats 4000000 in
set_option maxRecDepth 100000 in
theorem cput_calls {w : World} {B g : Nat} {bs : List Int} (A : Option Addr) (c : Nat) (xs : List (List Int)) (h : IsC w B g bs) (hr : ∀ W' : World, Below B w W' → CKeep w W' g → Kd.C (Kd.slice 5 (Kd.int .u8)) W' A xs.length xs) (hlen : xs.length ≤ 1000) (hl : bs.length + xs.flatten.length ≤ 1000000) :
    Calls Try.prog 40 #[.pointer (some ⟨g, 0, none⟩), .slice A xs.length c] w fun e w' => e = .returned (.tuple #[]) ∧ IsC w' B g (bs ++ xs.flatten) ∧ Below B w w' ∧ CKeep w w' g := by
  have HW := Lib.hid h
  have HR := Lib.hid hr
  have HL := Lib.hid hl
  have hB : B ≤ g := h.1
  clear h hr hl
  go_enter Try.func40, Try.ntmps40
  go_wp2_with fail
  go_loopw [8] (fun i wr => ∃ (k : Int), 0 ≤ k ∧ k ≤ (xs.length : Int) ∧ i = .int .i64 k ∧ Hid (IsC wr B g (bs ++ (xs.take k.toNat).flatten) ∧ Below B w wr ∧ CKeep w wr g)) (fun i _ => (1000 - intOf i).toNat)
  case atStart => exact ⟨0, by omega, by omega, rfl, Lib.hid ⟨by simpa using HW.out, Below.refl _ _, CKeep.refl _ _⟩⟩
  case round =>
    obtain ⟨k, hk0, hkx, rfl, H⟩ := hrel
    obtain ⟨hw, hb, hk⟩ := H.out
    have HB := Lib.hid hb
    have HK := Lib.hid hk
    by_cases hlt : k < (xs.length : Int)
    · obtain ⟨ad, A', c', rfl, c0, hl0, hC⟩ := at_row (HR.out wr hb hk) k hk0 hlt
      have HC := Lib.hid hC
      have HST := Lib.hid (flat_step hk0 hlt)
      have HLN := Lib.hid (show (bs ++ (xs.take k.toNat).flatten).length + (rdR xs k).length ≤ 1000000 by
        have h1 := HL.out
        have h2 := flat_take_le xs (k + 1).toNat
        have h3 := HST.out
        rw [h3, List.length_append] at h2
        rw [List.length_append]
        omega)
      generalize rdR xs k = ys at c0 HC HST HLN
      have HST2 := Lib.hid (show (bs ++ (xs.take k.toNat).flatten) ++ ys = bs ++ (xs.take (k + 1).toNat).flatten by rw [HST.out, List.append_assoc])
      generalize bs ++ (xs.take k.toNat).flatten = pre at hw HLN HST2
      obtain ⟨hlt2, A2, c2, ⟨h0, f0⟩, hg, hR⟩ := hw.cells
      have HLE := Lib.hid (show B ≤ wr.heap.size by omega)
      have HG := Lib.hid hg
      have HRR := Lib.hid hR
      clear hw hb hk hC hl0 hg hR H HST
      go_wp2_with ((with_reducible refine gate_builtin (b := .append) (xs := #[.tmp 16, .tmp 17]) rfl ?_); at_builtin; refine Kd.R_append_rows (Kd.int .u8) (w0 := w) B rfl (.tmp 16) (.tmp 17) 23 5 (.int .u8 0) 1 rfl Try.underlying23 info5 rfl (by decide) (by omega) _ pre ys _ _ _ (fun _ => True) (fun _ => False) rfl rfl ?aO ?aR (fun _ _ h => h) (fun _ h => h.elim) ?aF ?aB ?aS ?aL ?_; (case aR => exact HC.out); (case aB => exact HB.out); (case aF => exact (fun _ _ => trivial)); (case aO => exact HRR.out); (case aS => exact HLE.out); (case aL => have := HLN.out; omega); intro v2 w2 ho2 hb2 hg2 hat2; obtain ⟨A2, n2, c2, rfl, f2, h2, hW2, hB2, hK2⟩ := IsC.grown (w0 := w) hB HG.out HRR.out ho2 hb2 hg2 hat2; rw [HST2.out] at hW2; have HW2 := Lib.hid hW2; have HB2 := Lib.hid hB2; have HK2 := Lib.hid (HK.out.trans hK2); clear ho2 hb2 hg2 hat2 hW2 hB2 hK2)
      go_roundw
      case rel => exact ⟨k + 1, by omega, by omega, rfl, Lib.hid ⟨HW2.out, HB2.out, HK2.out⟩⟩
      case measure => simp [intOf]; omega
    · have ek : k.toNat = xs.length := by omega
      rw [ek, List.take_length] at hw
      have HW2 := Lib.hid hw
      clear hw hb hk H ek
      go_wp2
      go_end0
      exact ⟨rfl, HW2.out, HB.out, HK.out⟩
set_option maxHeartbeats 1000000 in
set_option maxRecDepth 100000 in
theorem ctext_calls {w : World} {B g : Nat} {bs : List Int} (A : Option Addr) (c : Nat) (ys : List Int) (h : IsC w B g bs) (hr : ∀ W' : World, Below B w W' → CKeep w W' g → Kd.C (Kd.int .u8) W' A ys.length ys) (hc : ys.length ≤ c) (hl : bs.length + ys.length ≤ 990000) :
    Calls Try.prog 43 #[.pointer (some ⟨g, 0, none⟩), .slice A ys.length c] w fun e w' => e = .returned (.tuple #[]) ∧ IsC w' B g (bs ++ (varB ys.length ++ ys)) ∧ Below B w w' ∧ CKeep w w' g := by
  have HW := Lib.hid h
  have HR := Lib.hid hr
  have HL := Lib.hid hl
  have HC := Lib.hid hc
  have HU := Lib.hid (u64w_id (n := (ys.length : Int)) (by omega) (by omega))
  have hu : IntKind.u64.wrap (ys.length : Int) = (ys.length : Int) := HU.out
  clear h hr hl hc
  go_enter Try.func43, Try.ntmps43
  go_wp2_with fail
  refine (cvar_calls ys.length HW.out (by have := HL.out; omega)).mono ?_
  rintro e w1 ⟨rfl, hw, hb, hk⟩
  have HW1 := Lib.hid hw
  have HB1 := Lib.hid hb
  have HK1 := Lib.hid hk
  have HLT1 := Lib.hid hw.lt
  clear hw hb hk hu
  go_wp2_with fail
  have hbx : (w1.alloc (.cells #[.slice A ys.length c] 23)).heap[w1.heap.size]? = some (.cells #[.slice A ys.length c] 23 (0, 0)) := by simpa using heap_alloc_new w1 _
  have hal : Below w1.heap.size w1 (w1.alloc (.cells #[.slice A ys.length c] 23)) := below_alloc (Below.refl _ _) _
  have hle := HW1.out.1
  refine (cput_calls (some ⟨w1.heap.size, 0, none⟩) 1 [ys] (HW1.out.alloc _) (fun W' hb hk => ?_) (by simp) (by have := HL.out; have := varB_length ys.length; simp; omega)).mono ?_
  · have hb' := hk.blk (k := w1.heap.size) (by have := HLT1.out; omega) ((HW1.out.alloc _).row hbx (by decide)) hbx
    refine C_row1 hb' HC.out (HR.out W' ?_ ?_)
    · exact (HB1.out.trans (Below.mono hal (by have := HLT1.out; omega))).trans hb
    · exact (HK1.out.below HW.out.lt hal).trans hk
  · clear hbx hle
    rintro e w2 ⟨rfl, hw, hb, hk⟩
    have HW2 := Lib.hid (show IsC w2 B g (bs ++ (varB ys.length ++ ys)) by rw [← List.append_assoc]; simpa using hw)
    have HB2 := Lib.hid ((HB1.out.trans (Below.mono hal (by have := HW1.out.1; have := HLT1.out; omega))).trans hb)
    have HK2 := Lib.hid ((HK1.out.below HW.out.lt hal).trans hk)
    clear hw hb hk hal
    go_wp2
    go_end0
    exact ⟨rfl, HW2.out, HB2.out, HK2.out⟩
end Go.Proofs.Ytfcmdhimlfoofaa.Hand
