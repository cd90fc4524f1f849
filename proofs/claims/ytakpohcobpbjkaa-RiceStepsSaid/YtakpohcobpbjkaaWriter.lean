/- The bit writer's methods: what they do to the writer in memory. -/
import Derived.Test.YtakpohcobpbjkaaProg
import Derived.Below
import Derived.Deep.Draws
import Derived.Deep.AppendLies
import Derived.Maps.AppendAt
import Derived.OwnWalk
import Derived.Laws.BytesArg
import Derived.Laws.MakeOwn
import Derived.Laws.OwnMore
import Derived.Deep.OwnRows
import Derived.Tactics
import Derived.Lib.ConvBytes
import Derived.Laws.Slices
import Derived.WalkKit
import Derived.KernelRfl
import Derived.RowKit3
import Derived.Deep.LoopGhost
import Derived.Deep.QuietTactic
import Derived.BigQuiet
import Derived.WideLaws
import Derived.Deep.DeepCutAuto
import Derived.Deep.CutBlock
import Derived.Deep.RegionHeld3
import Derived.Laws.Rows
import Derived.Lib.AppendStr
import Derived.ArgAppend
import Derived.Laws.IdiomCopy
import Derived.OrdersHeld
import Derived.Laws.BitsLemmas
import Derived.RowKit
import Derived.StillTailTactics
import Derived.Test.YtakpohcobpbjkaaWWords
import Derived.Test.YtakpohcobpbjkaaWLast
import Derived.Test.YtakpohcobpbjkaaWMore
import Derived.Lib.Hide
import Derived.Test.YtakpohcobpbjkaaBitPlain
import Derived.Test.YtakpohcobpbjkaaClone
import Derived.BigRegion
import Derived.Outline
namespace Go.Proofs.Ytakpohcobpbjkaa.Hand
open Go Go.RowKit Go.Proofs.Ytakpohcobpbjkaa.Plain Go.Proofs.YtakpohcobpbjkaaW.PrintWords Go.Proofs.YtakpohcobpbjkaaW.PrintLast Go.Proofs.YtakpohcobpbjkaaW.PrintMore
attribute [local go_sem] max2_int min2_int max_two min_two max_three min_three max_four min_four
set_option linter.unusedVariables false
set_option linter.unusedSimpArgs false
/-- Every block but g and the rows of bytes stays as it is. -/
def KeepsT (w w' : World) (g : Nat) : Prop := ∀ k o, k ≠ g → w.heap[k]? = some o → (∀ cells fr, o ≠ .cells cells 5 fr) → w'.heap[k]? = some o
theorem KeepsT.refl (w : World) (g : Nat) : KeepsT w w g := fun _ _ _ h _ => h
theorem KeepsT.trans {w w1 w2 : World} {g : Nat} (h : KeepsT w w1 g) (h' : KeepsT w1 w2 g) : KeepsT w w2 g := fun k o hk ho ht => h' k o hk (h k o hk ho ht) ht
theorem KeepsT.drew {w w1 : World} {g : Nat} (h : KeepsT w w1 g) : KeepsT w w1.drew g := h
theorem KeepsT.here {w w1 : World} {g : Nat} (h : KeepsT w w1 g) (p : Nat) (v : Value) : KeepsT w (w1.setCell ⟨g, p, none⟩ v) g := fun k o hk ho ht => (Below.heap_setCell w1 ⟨g, p, none⟩ v k hk).trans (h k o hk ho ht)
theorem KeepsT.byte {w w1 : World} {g go p : Nat} {cells : Array Value} {fr : Nat × Nat} (h : KeepsT w w1 g) (hgo : w1.heap[go]? = some (.cells cells 5 fr)) (v : Value) : KeepsT w (w1.setCell ⟨go, p, none⟩ v) g := fun k o hk ho ht => by
  have h1 := h k o hk ho ht
  have hne : k ≠ go := by
    rintro rfl
    rw [h1] at hgo
    exact ht _ _ (Option.some.inj hgo)
  exact (Below.heap_setCell w1 ⟨go, p, none⟩ v k hne).trans h1
theorem KeepsT.grown {w w1 : World} {g : Nat} {B : Nat} {ok : Nat → Prop} {v : Value} {bs : List Int} (hR : Kd.R (Kd.int .u8) 5 w B ok v bs) (hg : w.grownBy w1 v.ownBlock) : KeepsT w w1 g := fun k o hk ho ht => by
  have hlt : k < w.heap.size := (Array.getElem?_eq_some_iff.1 ho).1
  refine (hg.block k hlt (fun e => ?_)).trans ho
  obtain ⟨inner, hown⟩ := Kd.R_own hR
  obtain ⟨cells, hc⟩ := own_typed hown k e.symm
  rw [ho] at hc
  exact ht _ _ (Option.some.inj hc)
theorem KeepsT.below {w w1 w2 : World} {g : Nat} (h : KeepsT w w1 g) (hb : Below w1.heap.size w1 w2) : KeepsT w w2 g := fun k o hk ho ht => by
  have h1 := h k o hk ho ht
  exact (hb.block k (Array.getElem?_eq_some_iff.1 h1).1).trans h1
theorem KeepsT.cell {w w1 : World} {g k off : Nat} {cells : Array Value} {t : TypeId} {fr : Nat × Nat} {v : Value} (h : KeepsT w w1 g) (hk : k ≠ g) (hb : w.heap[k]? = some (.cells cells t fr)) (ht : t ≠ 5) (hc : w.cell? ⟨k, off, none⟩ = some v) : w1.cell? ⟨k, off, none⟩ = some v := by
  have h1 := h k _ hk hb (fun c f e => by injection e with _ e2; exact ht e2)
  rw [World.cell?_of_block (w := w) (a := ⟨k, off, none⟩) (by rw [h1, hb])]
  exact hc
/-- A writer at block g (its memory from B on): its bytes, and how many bits were put. -/
def IsW (w : World) (B g : Nat) (bs : List Int) (n : Int) : Prop := B ≤ g ∧ ∃ v, w.heap[g]? = some (.cells #[v, .int .i64 n] 53 (0, 0)) ∧ Kd.R (Kd.int .u8) 5 w B (fun _ => True) v bs
theorem IsW.cells {w : World} {B g : Nat} {bs : List Int} {n : Int} (h : IsW w B g bs n) : g < w.heap.size ∧ ∃ A c, (w.cell? ⟨g, 0, none⟩ = some (.slice A bs.length c) ∧ w.cell? ⟨g, 1, none⟩ = some (.int .i64 n) ∧ w.frozen? ⟨g, 0, none⟩ = false ∧ w.frozen? ⟨g, 1, none⟩ = false) ∧ w.heap[g]? = some (.cells #[.slice A bs.length c, .int .i64 n] 53 (0, 0)) ∧ Kd.R (Kd.int .u8) 5 w B (fun _ => True) (.slice A bs.length c) bs := by
  obtain ⟨hB, v, hg, hR⟩ := h
  obtain ⟨A, c, rfl⟩ := Kd.R_slice hR
  refine ⟨by rw [Array.getElem?_eq_some_iff] at hg; exact hg.1, A, c, ⟨?_, ?_, ?_, ?_⟩, hg, hR⟩
  all_goals simp [World.cell?, World.frozen?, hg]
theorem len_calls {w : World} {B g : Nat} {bs : List Int} {n : Int} (h : IsW w B g bs n) : Calls Try.prog 15 #[.pointer (some ⟨g, 0, none⟩)] w fun e w' => e = .returned (.int .i64 n) ∧ w = w' := by
  obtain ⟨hlt, A, c, ⟨h0, h1, _, _⟩, _, _⟩ := h.cells
  go_enter Try.func15, Try.ntmps15
  go_wp2
  go_ret
  exact ⟨rfl, rfl⟩
theorem IsW.field {w1 : World} {B g : Nat} {bs : List Int} {n : Int} {v v1 : Value} (hB : B ≤ g) (ho : Kd.R (Kd.int .u8) 5 w1 B (fun _ => True) v1 bs) (hg : w1.heap[g]? = some (.cells #[v, .int .i64 n] 53 (0, 0))) : IsW (w1.setCell ⟨g, 0, none⟩ v1) B g bs n := by
  refine ⟨hB, v1, ?_, Kd.R_set ho hg (by decide) 0 v1⟩
  have hlt : g < w1.heap.size := by rw [Array.getElem?_eq_some_iff] at hg; exact hg.1
  simp [World.setCell, Array.getElem?_modify, hg]
theorem IsW.count {w : World} {B g : Nat} {bs : List Int} {n m : Int} (h : IsW w B g bs n) : IsW (w.setCell ⟨g, 1, none⟩ (.int .i64 m)) B g bs m := by
  obtain ⟨hB, v, hg, ho⟩ := h
  refine ⟨hB, v, ?_, Kd.R_set ho hg (by decide) 1 _⟩
  have hlt : g < w.heap.size := by rw [Array.getElem?_eq_some_iff] at hg; exact hg.1
  simp [World.setCell, Array.getElem?_modify, hg]
theorem IsW.drew {w : World} {B g : Nat} {bs : List Int} {n : Int} (h : IsW w B g bs n) : IsW w.drew B g bs n := by
  obtain ⟨hB, v, hg, ho⟩ := h
  exact ⟨hB, v, hg, Kd.R_drew ho⟩
theorem IsW.store {w : World} {B g go cap : Nat} {bs : List Int} {n : Int} (hB : B ≤ g) (hg : w.heap[g]? = some (.cells #[.slice (some ⟨go, 0, none⟩) bs.length cap, .int .i64 n] 53 (0, 0))) (hR : Kd.R (Kd.int .u8) 5 w B (fun _ => True) (.slice (some ⟨go, 0, none⟩) bs.length cap) bs) (hp : 0 < bs.length) (i : Int) (x : Int) :
    IsW (w.setCell ⟨go, i.toNat, none⟩ (.int .u8 x)) B g (bs.set i.toNat x) n := by
  have hne : g ≠ go := by
    have := Kd.R_ne hR hg (by decide)
    simp [Value.ownBlock] at this
    exact this
  refine ⟨hB, .slice (some ⟨go, 0, none⟩) bs.length cap, ?_, ?_⟩
  · rw [← hg]; exact Below.heap_setCell w _ _ g hne
  · have := (Kd.R_putg hR i x).1
    exact this
theorem one_grown {w w1 : World} {B g c : Nat} {A : Option Addr} {bs : List Int} {n : Int} {v1 : Value} (hB : B ≤ g) (hlt : g < w.heap.size) (hg : w.heap[g]? = some (.cells #[.slice A bs.length c, .int .i64 n] 53 (0, 0))) (hne : some g ≠ (Value.slice A bs.length c).ownBlock)
    (hR : Kd.R (Kd.int .u8) 5 w B (fun _ => True) (.slice A bs.length c) bs) (ho : Kd.R (Kd.int .u8) 5 w1 B (fun _ => True) v1 (bs ++ [0])) (hb : Below B w w1) (hg1 : w.grownBy w1 (Value.slice A bs.length c).ownBlock) :
    ∃ go cap, v1 = .slice (some ⟨go, 0, none⟩) (bs.length + 1) cap ∧ w1.frozen? ⟨g, 0, none⟩ = false ∧ (∃ u, w1.cell? ⟨g, 0, none⟩ = some u) ∧ IsW (w1.setCell ⟨g, 0, none⟩ (.slice (some ⟨go, 0, none⟩) (bs.length + 1) cap)) B g (bs ++ [0]) n ∧ Below B w (w1.setCell ⟨g, 0, none⟩ (.slice (some ⟨go, 0, none⟩) (bs.length + 1) cap)) ∧ KeepsT w (w1.setCell ⟨g, 0, none⟩ (.slice (some ⟨go, 0, none⟩) (bs.length + 1) cap)) g := by
  have hgb := (hg1.block g hlt hne).trans hg
  obtain ⟨go, cap, he, _, _, _⟩ := Kd.R_form ho (by simp)
  simp only [List.length_append, List.length_singleton] at he
  subst he
  exact ⟨go, cap, rfl, by simp [World.frozen?, hgb], ⟨Value.slice A bs.length c, by simp [World.cell?, hgb]⟩, IsW.field hB ho hgb, hb.setCell (p := ⟨g, 0, none⟩) hB _, (KeepsT.grown hR hg1).here _ _⟩
/-- What the second statement reads: the writer's two cells, and the byte. -/
theorem one_reads {w : World} {B g : Nat} {bs : List Int} {n : Int} (h : IsW w B g bs n) (hn0 : 0 ≤ n) (hl : n / 8 < (bs.length : Int)) :
    ∃ go cap, w.cell? ⟨g, 0, none⟩ = some (.slice (some ⟨go, 0, none⟩) bs.length cap) ∧ w.cell? ⟨g, 1, none⟩ = some (.int .i64 n) ∧ w.frozen? ⟨g, 1, none⟩ = false ∧ w.cell? ⟨go, (n / 8).toNat, none⟩ = some (.int .u8 (rd bs (n / 8))) ∧ w.frozen? ⟨go, (n / 8).toNat, none⟩ = false ∧ B ≤ go ∧ go ≠ g ∧ (∃ cells fr, w.heap[go]? = some (.cells cells 5 fr)) ∧
      (∀ (w1 : World) (x : Int), w1 = w → IsW (w1.setCell ⟨go, (n / 8).toNat, none⟩ (.int .u8 x)) B g (bs.set (n / 8).toNat x) n) := by
  obtain ⟨hlt, A, c, ⟨h0, h1, f0, f1⟩, hg, hR⟩ := h.cells
  obtain ⟨go, cap, he, hgo, _, cells, hcells⟩ := Kd.R_form hR (by omega)
  injection he with ha _ hc
  subst ha hc
  obtain ⟨hx, hf⟩ := Kd.R_celln 0 hR (n / 8) (by omega) hl
  have hne := Kd.R_ne hR hg (by decide)
  refine ⟨go, c, h0, h1, f1, hx, hf, hgo, by simp [Value.ownBlock] at hne; omega, ⟨cells, _, hcells⟩, ?_⟩
  rintro w1 x rfl
  exact IsW.store h.1 hg hR (by omega) (n / 8) x
set_option maxHeartbeats 4000000 in
set_option maxRecDepth 100000 in
theorem one_calls {w : World} {B g : Nat} {bs : List Int} {n : Int} (x : Int) (h : IsW w B g bs n) (hn0 : 0 ≤ n) (hn1 : n ≤ 1000000000) (hl : (bs.length : Int) = (n + 7) / 8) :
    Calls Try.prog 38 #[.pointer (some ⟨g, 0, none⟩), .int .u64 x] w fun e w' => e = .returned (.tuple #[]) ∧ IsW w' B g (put1 bs n x) (n + 1) ∧ Below B w w' ∧ KeepsT w w' g := by
  obtain ⟨hlt, A, c, ⟨h0, h1, f0, f1⟩, hg, hR⟩ := h.cells
  have hB : B ≤ g := h.1
  have HL := Lib.hid hl
  have hw0 := h
  clear hl h
  by_cases hm : n % 8 = 0
  · have hm1 : ((n % 8) == 0) = true := beq_iff_eq.2 hm
    have HM := Lib.hid hm
    clear hm
    have HG := Lib.hid hg
    have HR := Lib.hid hR
    have HN := Lib.hid (Kd.R_ne hR hg (by decide))
    clear hg hR hw0
    have hlen : (bs.length : Int) ≤ 125000001 := by have := HL.out; omega
    go_enter Try.func38, Try.ntmps38
    go_wp2_with ((with_reducible refine gate_builtin (b := .append) (xs := #[.tmp 14, .tmp 15]) rfl ?_); at_builtin; refine Kd.R_append (Kd.int .u8) (w0 := w) B rfl (.tmp 14) (.tmp 15) 34 5 (.int .u8 0) 1 rfl Try.underlying34 info5 rfl (by decide) (by omega) _ bs 0 [.int .u8 0] (fun _ => True) (fun _ => False) rfl rfl ?aP (fun _ hk => hk.elim) ?aF ?aO ?aB ?aS ?aL ?_; (case aP => exact rfl); (case aB => exact Below.refl _ _); (case aF => exact (fun _ _ => trivial)); (case aO => exact HR.out); (case aS => omega); (case aL => omega); intro v1 w1 ho hb hg1 hat; obtain ⟨go, cap, hv, f2, ⟨u2, c2⟩, hW, hB1, hK1⟩ := one_grown hB hlt HG.out HN.out HR.out ho hb hg1; subst hv; have HW := Lib.hid hW; have HB1 := Lib.hid hB1; have HK1 := Lib.hid hK1; clear hW hB1 hK1 ho hb hg1 hat)
    clear h0 h1 f0 f1 f2 c2
    generalize hW6 : w1.setCell ⟨g, 0, none⟩ (.slice (some ⟨go, 0, none⟩) (bs.length + 1) cap) = W6 at *
    clear hW6
    have hidx : n / 8 < ((bs ++ [0]).length : Int) := by have := HL.out; simp; omega
    obtain ⟨go2, cap2, h0, h1, f1, hx, hf, hgo, hne, ⟨cc, ff, hcc⟩, hst⟩ := one_reads HW.out hn0 hidx
    have HST := Lib.hid hst
    have HCC := Lib.hid hcc
    clear hst hcc
    generalize (bs ++ [0]).length = L at h0 hidx
    obtain ⟨j, hj⟩ : ∃ j : Int, n / 8 = j := ⟨_, rfl⟩
    obtain ⟨m, hm7⟩ : ∃ m : Int, n % 8 = m := ⟨_, rfl⟩
    obtain ⟨s, hs⟩ : ∃ s : Int, 7 - m = s := ⟨_, rfl⟩
    have hput : put1 bs n x = (bs ++ [0]).set j.toNat (Go.bits .or .u8 (rd (bs ++ [0]) j) (Go.bits .and .u64 x 1 % 256 * 2 ^ s.toNat % 256)) := by
      subst hj hs hm7
      unfold put1 grown
      rw [if_pos HM.out]
    have b0 : 0 ≤ j := by omega
    have b1 : 0 ≤ s := by omega
    have b2 : s ≤ 7 := by omega
    have e1 : IntKind.i64.wrap (n.tdiv 8) = j := by rw [IntWalk.i64_quo n 8 (by omega)]; exact hj
    have e2 : n.tmod 8 = m := by rw [Int.tmod_eq_emod_of_nonneg hn0]; exact hm7
    have e3 : IntKind.i64.wrap (7 - m) = s := by rw [IntWalk.i64_in _ (by omega)]; exact hs
    have HST2 := Lib.hid (fun y => HST.out W6 y rfl)
    rw [hj] at hidx hx hf HST2
    have p0 := eq_true b0
    have q0 := eq_true hidx
    have HP := Lib.hid hput
    clear hj hm7 hs hput HST
    go_still_tail 23, (by kernel_rfl)
    change wpList _ _ _ _ _ W6.drew
    go_wp2
    go_end0
    exact ⟨rfl, by rw [HP.out]; exact (IsW.count (HST2.out _)).drew, ((HB1.out.setCell (p := ⟨go2, _, none⟩) hgo _).setCell (p := ⟨g, 1, none⟩) hB _).drew, ((HK1.out.byte HCC.out _).here _ _).drew⟩
  · have hm1 : ((n % 8) == 0) = false := beq_eq_false_iff_ne.2 hm
    have HM := Lib.hid hm
    clear hm hg hR
    have hlen : (bs.length : Int) ≤ 125000001 := by have := HL.out; omega
    have HW := Lib.hid hw0
    go_enter Try.func38, Try.ntmps38
    go_wp2_with fail
    clear h0 h1 f0 f1
    have HB1 := Lib.hid (Below.refl B w)
    have HK1 := Lib.hid (KeepsT.refl w g)
    have hidx : n / 8 < ((bs).length : Int) := by have := HL.out; have := HM.out; omega
    obtain ⟨go2, cap2, h0, h1, f1, hx, hf, hgo, hne, ⟨cc, ff, hcc⟩, hst⟩ := one_reads HW.out hn0 hidx
    have HST := Lib.hid hst
    have HCC := Lib.hid hcc
    clear hst hcc
    generalize (bs).length = L at h0 hidx
    obtain ⟨j, hj⟩ : ∃ j : Int, n / 8 = j := ⟨_, rfl⟩
    obtain ⟨m, hm7⟩ : ∃ m : Int, n % 8 = m := ⟨_, rfl⟩
    obtain ⟨s, hs⟩ : ∃ s : Int, 7 - m = s := ⟨_, rfl⟩
    have hput : put1 bs n x = (bs).set j.toNat (Go.bits .or .u8 (rd (bs) j) (Go.bits .and .u64 x 1 % 256 * 2 ^ s.toNat % 256)) := by
      subst hj hs hm7
      unfold put1 grown
      rw [if_neg HM.out]
    have b0 : 0 ≤ j := by omega
    have b1 : 0 ≤ s := by omega
    have b2 : s ≤ 7 := by omega
    have e1 : IntKind.i64.wrap (n.tdiv 8) = j := by rw [IntWalk.i64_quo n 8 (by omega)]; exact hj
    have e2 : n.tmod 8 = m := by rw [Int.tmod_eq_emod_of_nonneg hn0]; exact hm7
    have e3 : IntKind.i64.wrap (7 - m) = s := by rw [IntWalk.i64_in _ (by omega)]; exact hs
    have HST2 := Lib.hid (fun y => HST.out w y rfl)
    rw [hj] at hidx hx hf HST2
    have p0 := eq_true b0
    have q0 := eq_true hidx
    have HP := Lib.hid hput
    clear hj hm7 hs hput HST
    go_still_tail 23, (by kernel_rfl)
    change wpList _ _ _ _ _ w.drew
    go_wp2
    go_end0
    exact ⟨rfl, by rw [HP.out]; exact (IsW.count (HST2.out _)).drew, ((HB1.out.setCell (p := ⟨go2, _, none⟩) hgo _).setCell (p := ⟨g, 1, none⟩) hB _).drew, ((HK1.out.byte HCC.out _).here _ _).drew⟩
end Go.Proofs.Ytakpohcobpbjkaa.Hand
