/- From data that can be read to lists and numbers: what a parameter holds, by its type. -/
import Derived.Deep.Slices
import Derived.OpenShut
import Derived.Test.YtfcmdhimlfoofaaWArr
import Derived.Test.YtfcmdhimlfoofaaWWords
namespace Go.Proofs.Ytfcmdhimlfoofaa.Opens
open Go Go.RowKit Go.Proofs.YtfcmdhimlfoofaaW.PrintWords
set_option linter.unusedVariables false
/-- What reads at type t is an element of kind d, of which ok holds. -/
structure Opn {α : Type} (P : Program) (t : TypeId) (d : Kd α) (ok : α → Prop) : Prop where
  size : P.cellsOf t = d.sz
  open_ : ∀ {H : Type} {enc : TypeId × Value → H} {w : World} {base : Nat} {spare : Nat → Bool} {held : Bool} {fuel : Nat} {cs : List Value} {x : DataW H × List MemPlace}, DataW.trod enc P w base spare held fuel t cs = some x → cs.length = d.sz ∧ ∃ a, d.K w a cs ∧ ok a
theorem Opn.int {P : Program} {t : TypeId} {k : IntKind} (ht : P.underlying t = some (.int k)) (hc : P.cellsOf t = 1) : Opn P t (Kd.int k) (fun n => (Lit.int k n).wf = true) :=
  ⟨hc, fun h => by
    obtain ⟨n, hcs, _, hw⟩ := DataW.trod_int ht h
    subst hcs
    exact ⟨rfl, n, rfl, hw⟩⟩
theorem Opn.bool {P : Program} {t : TypeId} (ht : P.underlying t = some .bool) (hc : P.cellsOf t = 1) : Opn P t Kd.bool (fun _ => True) :=
  ⟨hc, fun h => by
    obtain ⟨b, hcs, _⟩ := DataW.trod_bool ht h
    subst hcs
    exact ⟨rfl, b, rfl, trivial⟩⟩
theorem Opn.string {P : Program} {t : TypeId} (ht : P.underlying t = some .string) (hc : P.cellsOf t = 1) : Opn P t Kd.string (fun s => s.size ≤ maxLen) :=
  ⟨hc, fun h => by
    obtain ⟨s, hcs, _, hs⟩ := DataW.trod_string ht h
    subst hcs
    exact ⟨rfl, s, rfl, hs⟩⟩
theorem cells_get {w : World} {base : Nat} {a : Addr} {n : Nat} {cs : List Value} (h : w.cells? base a n = some cs) : cs.length = n ∧ ∀ j u, cs[j]? = some u → w.cell? (a.add j) = some u := by
  obtain ⟨_, hl, hc⟩ := World.cells?_some h
  refine ⟨hl, fun j u hu => ?_⟩
  have hlt := (List.getElem?_eq_some_iff.1 hu).1
  rw [hc j (by omega), hu]
theorem Opn.slice {α : Type} {P : Program} {t e : TypeId} {d : Kd α} {ok : α → Prop} (ht : P.underlying t = some (.slice e)) (hc : P.cellsOf t = 1) (he : Opn P e d ok) : Opn P t (Kd.slice e d) (fun xs => ∀ x ∈ xs, ok x) :=
  ⟨hc, fun {H enc w base spare held fuel cs x} h => by
    rcases Go.Deep.open_slice ht h with ⟨hcs, _⟩ | ⟨a, len, cap, m, n, D, Pl, hcs, _, hl, hcap, hm, _, hel⟩
    · subst hcs
      exact ⟨rfl, [], ⟨none, 0, rfl, Nat.le_refl _, rfl, by simp, fun h => absurd h (Nat.lt_irrefl _)⟩, by simp⟩
    · subst hcs
      have hlm : len ≤ m := by rw [hm]; split <;> omega
      have hall : ∀ i, i < len → ∃ q : α × List Value, q.2.length = d.sz ∧ d.K w q.1 q.2 ∧ ok q.1 ∧ ∀ j u, q.2[j]? = some u → w.cell? (a.add (i * d.sz + j)) = some u := by
        intro i hi
        obtain ⟨cs', hcs', htr⟩ := hel i (by omega)
        obtain ⟨hlen, y, hK, hok⟩ := he.open_ htr
        rw [he.size] at hcs'
        refine ⟨(y, cs'), hlen, hK, hok, fun j u hu => ?_⟩
        have := (cells_get hcs').2 j u hu
        rwa [Go.Deep.add_add] at this
      have hfun : ∃ f : Nat → Option (α × List Value), ∀ i, i < len → ∃ q, f i = some q ∧ q.2.length = d.sz ∧ d.K w q.1 q.2 ∧ ok q.1 ∧ ∀ j u, q.2[j]? = some u → w.cell? (a.add (i * d.sz + j)) = some u := by
        refine Go.Deep.choose_lt (p := fun i (o : Option (α × List Value)) => ∃ q, o = some q ∧ q.2.length = d.sz ∧ d.K w q.1 q.2 ∧ ok q.1 ∧ ∀ j u, q.2[j]? = some u → w.cell? (a.add (i * d.sz + j)) = some u) ?_
        intro i hi
        obtain ⟨q, hq⟩ := hall i hi
        exact ⟨some q, q, rfl, hq⟩
      obtain ⟨f, hf⟩ := hfun
      have hxs : ∃ xs : List α, xs.length = len ∧ ∀ i (hi : i < xs.length), ∃ c, c.length = d.sz ∧ d.K w xs[i] c ∧ ok xs[i] ∧ ∀ j u, c[j]? = some u → w.cell? (a.add (i * d.sz + j)) = some u := by
        clear hall hel hl hlm hm h
        rename_i hx0
        clear hx0
        induction len with
        | zero => exact ⟨[], rfl, fun i hi => absurd hi (by simp)⟩
        | succ k ih =>
          obtain ⟨xs, hx, hxi⟩ := ih (fun i hi => hf i (by omega))
          obtain ⟨q, _, h1, h2, h3, h4⟩ := hf k (by omega)
          refine ⟨xs ++ [q.1], by simp [hx], fun i hi => ?_⟩
          by_cases hik : i < xs.length
          · rw [List.getElem_append_left hik]
            exact hxi i hik
          · have : i = k := by simp at hi; omega
            subst this
            rw [List.getElem_append_right (by omega)]
            simp only [hx, Nat.sub_self, List.getElem_cons_zero]
            exact ⟨q.2, h1, h2, h3, h4⟩
      obtain ⟨xs, hx, hxi⟩ := hxs
      subst hx
      refine ⟨rfl, xs, ⟨some a, cap, rfl, hl, rfl, by unfold maxLen at hcap; omega, fun _ => ⟨a, rfl, fun j p hj => ?_⟩⟩, fun x hx => ?_⟩
      · obtain ⟨hlt, rfl⟩ := List.getElem?_eq_some_iff.1 hj
        obtain ⟨c, h1, h2, h3, h4⟩ := hxi j hlt
        exact ⟨c, h1, h2, h4⟩
      · obtain ⟨i, hi, rfl⟩ := List.mem_iff_getElem.1 hx
        obtain ⟨c, h1, h2, h3, h4⟩ := hxi i hi
        exact h3⟩
/-- What reads at these fields, from this place on, is of kind d. -/
structure OpnF {α : Type} (P : Program) (fs : List Field) (off : Nat) (d : Kd α) (ok : α → Prop) : Prop where
  open_ : ∀ {H : Type} {enc : TypeId × Value → H} {w : World} {base : Nat} {spare : Nat → Bool} {held : Bool} {fuel : Nat} {cs : List Value}, cs.length = off + d.sz → (∀ (i : Nat) (f : Field), fs[i]? = some f → ∃ y, DataW.trod enc P w base spare held fuel f.type ((cs.drop f.offset).take (P.cellsOf f.type)) = some y) → ∃ a, d.K w a (cs.drop off) ∧ ok a
theorem OpnF.one {α : Type} {P : Program} {f : Field} {off : Nat} {d : Kd α} {ok : α → Prop} (ho : f.offset = off) (h : Opn P f.type d ok) : OpnF P [f] off d ok :=
  ⟨fun {H enc w base spare held fuel cs} hl hf => by
    obtain ⟨y, hy⟩ := hf 0 f rfl
    rw [ho, h.size, List.take_of_length_le (by simp; omega)] at hy
    exact (h.open_ hy).2⟩
theorem OpnF.cons {α β : Type} {P : Program} {f : Field} {fs : List Field} {off : Nat} {a : Kd α} {b : Kd β} {ok : α → Prop} {ok' : β → Prop} (ho : f.offset = off) (h : Opn P f.type a ok) (hs : OpnF P fs (off + a.sz) b ok') : OpnF P (f :: fs) off (Kd.pair a b) (fun x => ok x.1 ∧ ok' x.2) :=
  ⟨fun {H enc w base spare held fuel cs} hl hf => by
    have hl' : cs.length = off + (a.sz + b.sz) := hl
    obtain ⟨y, hy⟩ := hf 0 f rfl
    rw [ho, h.size] at hy
    obtain ⟨hlen, x, hK, hok⟩ := h.open_ hy
    obtain ⟨z, hKz, hokz⟩ := hs.open_ (cs := cs) (by omega) (fun i g hg => hf (i + 1) g hg)
    refine ⟨(x, z), ⟨(cs.drop off).take a.sz, cs.drop (off + a.sz), ?_, hK, hKz⟩, hok, hokz⟩
    rw [← List.drop_drop, List.take_append_drop]⟩
theorem Opn.struct {α : Type} {P : Program} {t : TypeId} {fs : Array Field} {d : Kd α} {ok : α → Prop} (ht : P.underlying t = some (.struct fs)) (hc : P.cellsOf t = d.sz) (h : OpnF P fs.toList 0 d ok) : Opn P t d ok :=
  ⟨hc, fun {H enc w base spare held fuel cs x} hx => by
    obtain ⟨xs, n, _, _, hl, hlen, hf⟩ := DataW.trod_struct ht hx
    rw [hc] at hl
    refine ⟨hl, ?_⟩
    have := h.open_ (enc := enc) (w := w) (base := base) (spare := spare) (held := held) (fuel := n) (cs := cs) (by omega) (fun i f hi => ?_)
    · simpa using this
    · have hlt : i < fs.toList.length := (List.getElem?_eq_some_iff.1 hi).1
      have e := hf i f (by simpa using hi)
      exact ⟨xs[i]'(by simpa [hlen] using hlt), by rw [e, List.getElem?_eq_getElem]⟩⟩
theorem Opn.imp {α : Type} {P : Program} {t : TypeId} {d : Kd α} {ok ok' : α → Prop} (h : Opn P t d ok) (hi : ∀ a, ok a → ok' a) : Opn P t d ok' := ⟨h.size, fun hx => by obtain ⟨h1, a, h2, h3⟩ := h.open_ hx; exact ⟨h1, a, h2, hi a h3⟩⟩
/-- A slice that is a parameter. -/
theorem Opn.param {α : Type} {P : Program} {t e : TypeId} {d : Kd α} {ok : α → Prop} (he : Opn P t (Kd.slice e d) (fun xs => ∀ x ∈ xs, ok x)) {H : Type} {enc : TypeId × Value → H} {w : World} {base : Nat} {spare : Nat → Bool} {held : Bool} {A : Option Addr} {n c : Nat} {y : DataW H} {ps : List MemPlace}
    (h : DataW.Trod enc P w base spare held t (.slice A n c) y ps) : ∃ xs, n = xs.length ∧ xs.length ≤ c ∧ d.C w A xs.length xs ∧ ∀ x ∈ xs, ok x := by
  obtain ⟨fuel, hf⟩ := h
  obtain ⟨_, xs, ⟨A', c', hcs, hl, hC⟩, hok⟩ := he.open_ hf
  have e : (Value.slice A n c).cells.toList = [.slice A n c] := rfl
  rw [e] at hcs
  injection hcs with hcs _
  injection hcs with h1 h2 h3
  subst h1 h2 h3
  exact ⟨xs, rfl, hl, hC, hok⟩
end Go.Proofs.Ytfcmdhimlfoofaa.Opens
