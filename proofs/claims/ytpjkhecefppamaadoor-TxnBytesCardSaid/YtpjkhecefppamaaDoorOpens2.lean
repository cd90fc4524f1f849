/- From data that can be read to lists and numbers: arrays, and parameters that are structs or arrays. -/
import Derived.Test.YtpjkhecefppamaaDoorOpens
namespace Go.Proofs.YtpjkhecefppamaaDoor.Opens
open Go Go.RowKit Go.Proofs.YtpjkhecefppamaaDoorW.PrintWords
set_option linter.unusedVariables false
theorem okWide_array {P : Program} {w : World} {r : Reach} {base : Nat} {t e : TypeId} {n : Nat} {v : Value} (ht : P.underlying t = some (.array n e)) (h : Value.okWide P w r base t v) : ∃ cs, v = .agg cs ∧ cs.size = P.cellsOf t := by
  simp only [Value.okWide, ht] at h
  obtain ⟨cs, h1, h2, _⟩ := h
  exact ⟨cs, h1, h2⟩
theorem okWide_structs {P : Program} {w : World} {r : Reach} {base : Nat} {t : TypeId} {fs : Array Field} {v : Value} (ht : P.underlying t = some (.struct fs)) (h : Value.okWide P w r base t v) : ∃ cs, v = .agg cs ∧ cs.size = P.cellsOf t := by
  simp only [Value.okWide, ht] at h
  obtain ⟨cs, h1, h2, _⟩ := h
  exact ⟨cs, h1, h2⟩
theorem list_of_all {α : Type} {n : Nat} {p : Nat → α → Prop} (h : ∀ i, i < n → ∃ a, p i a) : ∃ xs : List α, xs.length = n ∧ ∀ i (hi : i < xs.length), p i xs[i] := by
  induction n with
  | zero => exact ⟨[], rfl, fun i hi => absurd hi (by simp)⟩
  | succ n ih =>
    obtain ⟨xs, hx, hp⟩ := ih (fun i hi => h i (by omega))
    obtain ⟨a, ha⟩ := h n (by omega)
    refine ⟨xs ++ [a], by simp [hx], fun i hi => ?_⟩
    by_cases hik : i < xs.length
    · rw [List.getElem_append_left hik]
      exact hp i hik
    · have : i = n := by simp at hi; omega
      subst this
      rw [List.getElem_append_right (by omega)]
      simpa [hx] using ha
theorem Opn.array {α : Type} {P : Program} {t e : TypeId} {n : Nat} {d : Kd α} {ok : α → Prop} (hs : 0 < d.sz) (ht : P.underlying t = some (.array n e)) (hc : P.cellsOf t = n * d.sz) (he : Opn P e d ok) : Opn P t (Kd.arr n d hs) (fun xs => ∀ x ∈ xs, ok x) :=
  ⟨hc, fun {H enc w base spare held fuel cs x} hx => by
    obtain ⟨xs, m, _, ex, hlen, hl, hel⟩ := DataW.trod_array ht hx
    have hlc : cs.length = n * d.sz := hlen.trans hc
    have hall : ∀ i, i < n → ∃ a, d.K w a ((cs.drop (i * d.sz)).take d.sz) ∧ ok a := by
      intro i hi
      have h1 := hel i hi
      rw [he.size] at h1
      obtain ⟨_, a, h2, h3⟩ := he.open_ (h1.trans (List.getElem?_eq_getElem (by omega)))
      exact ⟨a, h2, h3⟩
    obtain ⟨ys, hy, hp⟩ := list_of_all hall
    refine ⟨hlc, ys, ⟨hy, by rw [hlc, hy], fun j p hj => ?_⟩, fun y hy' => ?_⟩
    · obtain ⟨hlt, rfl⟩ := List.getElem?_eq_some_iff.1 hj
      exact (hp j hlt).1
    · obtain ⟨i, hi, rfl⟩ := List.mem_iff_getElem.1 hy'
      exact (hp i hi).2⟩
theorem Opn.agg {α : Type} {P : Program} {t : TypeId} {d : Kd α} {ok : α → Prop} (he : Opn P t d ok) {H : Type} {enc : TypeId × Value → H} {w : World} {base : Nat} {spare : Nat → Bool} {held : Bool} {cs : Array Value} {y : DataW H} {ps : List MemPlace}
    (h : DataW.Trod enc P w base spare held t (.agg cs) y ps) : ∃ x, d.K w x cs.toList ∧ ok x := by
  obtain ⟨fuel, hf⟩ := h
  exact (he.open_ hf).2
end Go.Proofs.YtpjkhecefppamaaDoor.Opens
