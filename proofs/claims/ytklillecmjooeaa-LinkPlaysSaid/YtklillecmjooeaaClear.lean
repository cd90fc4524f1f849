/- 'clear' of the spare places behind a row of one's own: the row stays. -/
import Derived.Test.YtklillecmjooeaaProg
import Derived.Below
import Derived.Deep.Draws
import Derived.Deep.AppendLies
import Derived.Maps.AppendAt
import Derived.OwnWalk
import Derived.Laws.BytesArg
import Derived.Laws.MakeOwn
import Derived.Laws.OwnMore
import Derived.Deep.OwnRows
import Derived.Tactics
import Derived.Lib.ConvBytes
import Derived.Laws.Slices
import Derived.WalkKit
import Derived.KernelRfl
import Derived.RowKit3
import Derived.Deep.LoopGhost
import Derived.Deep.QuietTactic
import Derived.BigQuiet
import Derived.WideLaws
import Derived.Deep.DeepCutAuto
import Derived.Deep.CutBlock
import Derived.Deep.RegionHeld3
import Derived.Laws.Rows
import Derived.Lib.AppendStr
import Derived.ArgAppend
import Derived.Laws.IdiomCopy
import Derived.OrdersHeld
import Derived.Laws.BitsLemmas
import Derived.RowKit
import Derived.StillTailTactics
import Derived.Test.YtklillecmjooeaaWWords
import Derived.Test.YtklillecmjooeaaWLast
import Derived.Test.YtklillecmjooeaaWMore
namespace Go.Proofs.Ytklillecmjooeaa.Hand
open Go Go.RowKit Go.Proofs.YtklillecmjooeaaW.PrintWords Go.Proofs.YtklillecmjooeaaW.PrintLast Go.Proofs.YtklillecmjooeaaW.PrintMore
set_option linter.unusedVariables false
set_option linter.unusedSimpArgs false
theorem R_clear_run {P : Program} {α : Type} (d : Kd α) {W : World} (base : Nat) (t ty e : TypeId) (z : Value) (ht : P.underlying t = some (.slice e)) (hv : ∀ w, (zeroValue e).run P w = .ok z w) (hz : z.cells.size = d.sz) (h1 : ∀ u ∈ (Builtin.zeroCells z.cells 1).toList, u.oneCell' = true)
    {g n c c2 o : Nat} {xs : List α} {ok : Nat → Prop} (HO : d.R e W base ok (.slice (some ⟨g, 0, none⟩) n c) xs) (hm : n + 1 ≤ c) (ho : o = n * d.sz) :
    ∃ w1, (Builtin.clear_ #[t] ty #[.slice (some ⟨g, o, none⟩) 1 c2]).run P W = .ok (.tuple #[]) w1 ∧ d.R e w1 base ok (.slice (some ⟨g, 0, none⟩) n c) xs ∧ W.grownBy w1 (some g) := by
  subst ho
  obtain ⟨hn, hnc, _⟩ := Kd.R_reads' HO
  obtain ⟨hok, inner, hown, hr⟩ := HO
  rcases hown.2 with ⟨hv', _⟩ | ⟨g', cap', cur, hv', hb, hh, hle, hcm, hcs, htake⟩
  · cases hv'
  injection hv' with ha _ hc
  injection ha with ha
  injection ha with hg
  subst hg; subst hc
  rw [← hn] at htake hown hle
  obtain ⟨zs, hzs⟩ : ∃ zs, (Builtin.zeroCells z.cells 1).toList = zs := ⟨_, rfl⟩
  rw [hzs] at h1
  have hzl : zs.length = d.sz := by rw [← hzs]; simp [Builtin.zeroCells, hz]
  have hfit : n * d.sz + zs.length ≤ cur.size := by rw [hcs, hzl, ← Nat.succ_mul]; exact Nat.mul_le_mul_right _ hm
  have hst := run_storeCells_cells (P := P) g (n * d.sz) zs 0 W (fun j hj => by rw [cell_of_row W g _ cur e (0, 0) hh]; simp; omega) (fun j _ => blk_frozen hh _) h1
  simp only [Nat.add_zero] at hst
  obtain ⟨cur', h3, h4, h5⟩ := setCells_row zs (n * d.sz) W cur hh hfit
  obtain ⟨s1, s2, s3, s4⟩ := setCells_same g zs (n * d.sz) W
  have hfar : ∀ k', k' ≠ g → (W.setCells g (n * d.sz) zs).heap[k']? = W.heap[k']? := fun k' hk' => setCells_far zs _ k' hk'
  refine ⟨W.setCells g (n * d.sz) zs, ?_, ⟨hok, inner, ⟨by rw [← hn]; exact hown.1, .inr ⟨g, c, cur', by rw [← hn], hb, h3, by rw [← hn]; exact hle, hcm, by rw [h4, hcs], ?_⟩⟩, hr.imp_ (fun _ _ hp => d.M_move (fun k hk => hfar k (fun he => hk.2 (by rw [he]; simp [Value.ownBlock]))) hp)⟩, ⟨s1, s2, s3, by rw [s4]; exact Nat.le_refl _, fun k' _ hk' => hfar k' (fun he => hk' (by rw [he]))⟩⟩
  · simp [Builtin.clear_, run_underlying ht, hv, hzs, hst]
  · rw [← hn, h5, List.append_assoc, List.take_append_of_le_length (by rw [List.length_take]; simp; omega), List.take_take, Nat.min_self]
    exact htake
theorem R_clear {P : Program} {ops : Array Oper} {rest : List Oper} {o : Oper} {a : Act} {Q : Exit → Act → World → Prop} {α : Type} (d : Kd α) {W : World} (base : Nat) (hgd : o.guard = none) (x : Operand) (t e : TypeId) (ho : o.op = .call { callee := .builtin .clear, args := #[x], argTypes := #[t] })
    (z : Value) (ht : P.underlying t = some (.slice e)) (hv : ∀ w, (zeroValue e).run P w = .ok z w) (hz : z.cells.size = d.sz) (h1 : ∀ u ∈ (Builtin.zeroCells z.cells 1).toList, u.oneCell' = true)
    {g n c c2 q m : Nat} {xs : List α} {ok : Nat → Prop} (hx : a.eval x = .slice (some ⟨g, q, none⟩) m c2) (hm1 : m = 1) (HO : d.R e W base ok (.slice (some ⟨g, 0, none⟩) n c) xs) (hm : n + 1 ≤ c) (hq : q = n * d.sz)
    (h : ∀ w1, d.R e w1 base ok (.slice (some ⟨g, 0, none⟩) n c) xs → W.grownBy w1 (some g) → wpList P ops Q rest (a.put o.dst (.tuple #[])) w1) : wpList P ops Q (o :: rest) a W := by
  subst hm1
  obtain ⟨w1, hr, h2, h3⟩ := R_clear_run (P := P) d base t o.type e z ht hv hz h1 (c2 := c2) HO hm hq
  refine wpList_plain hgd fun K hK => ?_
  unfold Oper.wp execOp
  simp only [ho, resolve, invoke, builtin, Sem.run_bind, Sem.run_pure, Result.andThen_ok, List.map_toArray, List.map_cons, List.map_nil, hx, hr]
  exact hK _ _ (h w1 h2 h3)
end Go.Proofs.Ytklillecmjooeaa.Hand
