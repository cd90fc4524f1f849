/- Several texts in one. -/
import Derived.Deep.Slices
import Derived.OpenShut
import Derived.Test.YtfcmdhimlfoofaaWArr
import Derived.Test.YtfcmdhimlfoofaaWWords
import Derived.Test.YtfcmdhimlfoofaaProg
import Derived.Below
import Derived.Deep.Draws
import Derived.Deep.AppendLies
import Derived.Maps.AppendAt
import Derived.OwnWalk
import Derived.Laws.BytesArg
import Derived.Laws.MakeOwn
import Derived.Laws.OwnMore
import Derived.Deep.OwnRows
import Derived.Tactics
import Derived.Lib.ConvBytes
import Derived.Laws.Slices
import Derived.WalkKit
import Derived.KernelRfl
import Derived.RowKit3
import Derived.Deep.LoopGhost
import Derived.Deep.QuietTactic
import Derived.BigQuiet
import Derived.WideLaws
import Derived.Deep.DeepCutAuto
import Derived.Deep.CutBlock
import Derived.Deep.RegionHeld3
import Derived.Laws.Rows
import Derived.Lib.AppendStr
import Derived.ArgAppend
import Derived.Laws.IdiomCopy
import Derived.OrdersHeld
import Derived.Laws.BitsLemmas
import Derived.RowKit
import Derived.StillTailTactics
import Derived.Test.YtfcmdhimlfoofaaWLast
import Derived.Test.YtfcmdhimlfoofaaWMore
import Derived.Lib.Hide
import Derived.Test.YtfcmdhimlfoofaaCodecPlain
import Derived.Test.YtfcmdhimlfoofaaWriter
import Derived.Test.YtfcmdhimlfoofaaMAlln0
import Derived.Test.YtfcmdhimlfoofaaMAlln1
import Derived.Test.YtfcmdhimlfoofaaMAlln2
import Derived.Outline
import Derived.WalkSpells
import Derived.Deep.RegionLaw
import Derived.BigRegion
import Derived.Deep.DrawnRows
import Derived.Deep.WholeRow
import Derived.Test.YtfcmdhimlfoofaaHash
import Derived.LaidEql
import Derived.Deep.MidRow
import Derived.Test.YtfcmdhimlfoofaaBytes
import Derived.Test.YtfcmdhimlfoofaaCells16
import Derived.Test.YtfcmdhimlfoofaaRCells16
import Derived.Test.YtfcmdhimlfoofaaNone16
import Derived.Test.YtfcmdhimlfoofaaPushKeep
import Derived.Test.YtfcmdhimlfoofaaPut16
/- From data that can be read to lists and numbers: what a parameter holds, by its type. -/
namespace Go.Proofs.Ytfcmdhimlfoofaa.Opens
open Go Go.RowKit Go.Proofs.YtfcmdhimlfoofaaW.PrintWords
set_option linter.unusedVariables false
/-- What reads at type t is an element of kind d, of which ok holds. -/
structure Opn {α : Type} (P : Program) (t : TypeId) (d : Kd α) (ok : α → Prop) : Prop where
  size : P.cellsOf t = d.sz
  open_ : ∀ {H : Type} {enc : TypeId × Value → H} {w : World} {base : Nat} {spare : Nat → Bool} {held : Bool} {fuel : Nat} {cs : List Value} {x : DataW H × List MemPlace}, DataW.trod enc P w base spare held fuel t cs = some x → cs.length = d.sz ∧ ∃ a, d.K w a cs ∧ ok a
theorem Opn.int {P : Program} {t : TypeId} {k : IntKind} (ht : P.underlying t = some (.int k)) (hc : P.cellsOf t = 1) : Opn P t (Kd.int k) (fun n => (Lit.int k n).wf = true) :=
  ⟨hc, fun h => by
    obtain ⟨n, hcs, _, hw⟩ := DataW.trod_int ht h
    subst hcs
    exact ⟨rfl, n, rfl, hw⟩⟩
theorem Opn.bool {P : Program} {t : TypeId} (ht : P.underlying t = some .bool) (hc : P.cellsOf t = 1) : Opn P t Kd.bool (fun _ => True) :=
  ⟨hc, fun h => by
    obtain ⟨b, hcs, _⟩ := DataW.trod_bool ht h
    subst hcs
    exact ⟨rfl, b, rfl, trivial⟩⟩
theorem Opn.string {P : Program} {t : TypeId} (ht : P.underlying t = some .string) (hc : P.cellsOf t = 1) : Opn P t Kd.string (fun s => s.size ≤ maxLen) :=
  ⟨hc, fun h => by
    obtain ⟨s, hcs, _, hs⟩ := DataW.trod_string ht h
    subst hcs
    exact ⟨rfl, s, rfl, hs⟩⟩
theorem cells_get {w : World} {base : Nat} {a : Addr} {n : Nat} {cs : List Value} (h : w.cells? base a n = some cs) : cs.length = n ∧ ∀ j u, cs[j]? = some u → w.cell? (a.add j) = some u := by
  obtain ⟨_, hl, hc⟩ := World.cells?_some h
  refine ⟨hl, fun j u hu => ?_⟩
  have hlt := (List.getElem?_eq_some_iff.1 hu).1
  rw [hc j (by omega), hu]
theorem Opn.slice {α : Type} {P : Program} {t e : TypeId} {d : Kd α} {ok : α → Prop} (ht : P.underlying t = some (.slice e)) (hc : P.cellsOf t = 1) (he : Opn P e d ok) : Opn P t (Kd.slice e d) (fun xs => ∀ x ∈ xs, ok x) :=
  ⟨hc, fun {H enc w base spare held fuel cs x} h => by
    rcases Go.Deep.open_slice ht h with ⟨hcs, _⟩ | ⟨a, len, cap, m, n, D, Pl, hcs, _, hl, hcap, hm, _, hel⟩
    · subst hcs
      exact ⟨rfl, [], ⟨none, 0, rfl, Nat.le_refl _, rfl, by simp, fun h => absurd h (Nat.lt_irrefl _)⟩, by simp⟩
    · subst hcs
      have hlm : len ≤ m := by rw [hm]; split <;> omega
      have hall : ∀ i, i < len → ∃ q : α × List Value, q.2.length = d.sz ∧ d.K w q.1 q.2 ∧ ok q.1 ∧ ∀ j u, q.2[j]? = some u → w.cell? (a.add (i * d.sz + j)) = some u := by
        intro i hi
        obtain ⟨cs', hcs', htr⟩ := hel i (by omega)
        obtain ⟨hlen, y, hK, hok⟩ := he.open_ htr
        rw [he.size] at hcs'
        refine ⟨(y, cs'), hlen, hK, hok, fun j u hu => ?_⟩
        have := (cells_get hcs').2 j u hu
        rwa [Go.Deep.add_add] at this
      have hfun : ∃ f : Nat → Option (α × List Value), ∀ i, i < len → ∃ q, f i = some q ∧ q.2.length = d.sz ∧ d.K w q.1 q.2 ∧ ok q.1 ∧ ∀ j u, q.2[j]? = some u → w.cell? (a.add (i * d.sz + j)) = some u := by
        refine Go.Deep.choose_lt (p := fun i (o : Option (α × List Value)) => ∃ q, o = some q ∧ q.2.length = d.sz ∧ d.K w q.1 q.2 ∧ ok q.1 ∧ ∀ j u, q.2[j]? = some u → w.cell? (a.add (i * d.sz + j)) = some u) ?_
        intro i hi
        obtain ⟨q, hq⟩ := hall i hi
        exact ⟨some q, q, rfl, hq⟩
      obtain ⟨f, hf⟩ := hfun
      have hxs : ∃ xs : List α, xs.length = len ∧ ∀ i (hi : i < xs.length), ∃ c, c.length = d.sz ∧ d.K w xs[i] c ∧ ok xs[i] ∧ ∀ j u, c[j]? = some u → w.cell? (a.add (i * d.sz + j)) = some u := by
        clear hall hel hl hlm hm h
        rename_i hx0
        clear hx0
        induction len with
        | zero => exact ⟨[], rfl, fun i hi => absurd hi (by simp)⟩
        | succ k ih =>
          obtain ⟨xs, hx, hxi⟩ := ih (fun i hi => hf i (by omega))
          obtain ⟨q, _, h1, h2, h3, h4⟩ := hf k (by omega)
          refine ⟨xs ++ [q.1], by simp [hx], fun i hi => ?_⟩
          by_cases hik : i < xs.length
          · rw [List.getElem_append_left hik]
            exact hxi i hik
          · have : i = k := by simp at hi; omega
            subst this
            rw [List.getElem_append_right (by omega)]
            simp only [hx, Nat.sub_self, List.getElem_cons_zero]
            exact ⟨q.2, h1, h2, h3, h4⟩
      obtain ⟨xs, hx, hxi⟩ := hxs
      subst hx
      refine ⟨rfl, xs, ⟨some a, cap, rfl, hl, rfl, by unfold maxLen at hcap; omega, fun _ => ⟨a, rfl, fun j p hj => ?_⟩⟩, fun x hx => ?_⟩
      · obtain ⟨hlt, rfl⟩ := List.getElem?_eq_some_iff.1 hj
        obtain ⟨c, h1, h2, h3, h4⟩ := hxi j hlt
        exact ⟨c, h1, h2, h4⟩
      · obtain ⟨i, hi, rfl⟩ := List.mem_iff_getElem.1 hx
        obtain ⟨c, h1, h2, h3, h4⟩ := hxi i hi
        exact h3⟩
/-- What reads at these fields, from this place on, is of kind d. -/
structure OpnF {α : Type} (P : Program) (fs : List Field) (off : Nat) (d : Kd α) (ok : α → Prop) : Prop where
  open_ : ∀ {H : Type} {enc : TypeId × Value → H} {w : World} {base : Nat} {spare : Nat → Bool} {held : Bool} {fuel : Nat} {cs : List Value}, cs.length = off + d.sz → (∀ (i : Nat) (f : Field), fs[i]? = some f → ∃ y, DataW.trod enc P w base spare held fuel f.type ((cs.drop f.offset).take (P.cellsOf f.type)) = some y) → ∃ a, d.K w a (cs.drop off) ∧ ok a
theorem OpnF.one {α : Type} {P : Program} {f : Field} {off : Nat} {d : Kd α} {ok : α → Prop} (ho : f.offset = off) (h : Opn P f.type d ok) : OpnF P [f] off d ok :=
  ⟨fun {H enc w base spare held fuel cs} hl hf => by
    obtain ⟨y, hy⟩ := hf 0 f rfl
    rw [ho, h.size, List.take_of_length_le (by simp; omega)] at hy
    exact (h.open_ hy).2⟩
theorem OpnF.cons {α β : Type} {P : Program} {f : Field} {fs : List Field} {off : Nat} {a : Kd α} {b : Kd β} {ok : α → Prop} {ok' : β → Prop} (ho : f.offset = off) (h : Opn P f.type a ok) (hs : OpnF P fs (off + a.sz) b ok') : OpnF P (f :: fs) off (Kd.pair a b) (fun x => ok x.1 ∧ ok' x.2) :=
  ⟨fun {H enc w base spare held fuel cs} hl hf => by
    have hl' : cs.length = off + (a.sz + b.sz) := hl
    obtain ⟨y, hy⟩ := hf 0 f rfl
    rw [ho, h.size] at hy
    obtain ⟨hlen, x, hK, hok⟩ := h.open_ hy
    obtain ⟨z, hKz, hokz⟩ := hs.open_ (cs := cs) (by omega) (fun i g hg => hf (i + 1) g hg)
    refine ⟨(x, z), ⟨(cs.drop off).take a.sz, cs.drop (off + a.sz), ?_, hK, hKz⟩, hok, hokz⟩
    rw [← List.drop_drop, List.take_append_drop]⟩
theorem Opn.struct {α : Type} {P : Program} {t : TypeId} {fs : Array Field} {d : Kd α} {ok : α → Prop} (ht : P.underlying t = some (.struct fs)) (hc : P.cellsOf t = d.sz) (h : OpnF P fs.toList 0 d ok) : Opn P t d ok :=
  ⟨hc, fun {H enc w base spare held fuel cs x} hx => by
    obtain ⟨xs, n, _, _, hl, hlen, hf⟩ := DataW.trod_struct ht hx
    rw [hc] at hl
    refine ⟨hl, ?_⟩
    have := h.open_ (enc := enc) (w := w) (base := base) (spare := spare) (held := held) (fuel := n) (cs := cs) (by omega) (fun i f hi => ?_)
    · simpa using this
    · have hlt : i < fs.toList.length := (List.getElem?_eq_some_iff.1 hi).1
      have e := hf i f (by simpa using hi)
      exact ⟨xs[i]'(by simpa [hlen] using hlt), by rw [e, List.getElem?_eq_getElem]⟩⟩
theorem Opn.imp {α : Type} {P : Program} {t : TypeId} {d : Kd α} {ok ok' : α → Prop} (h : Opn P t d ok) (hi : ∀ a, ok a → ok' a) : Opn P t d ok' := ⟨h.size, fun hx => by obtain ⟨h1, a, h2, h3⟩ := h.open_ hx; exact ⟨h1, a, h2, hi a h3⟩⟩
/-- A slice that is a parameter. -/
theorem Opn.param {α : Type} {P : Program} {t e : TypeId} {d : Kd α} {ok : α → Prop} (he : Opn P t (Kd.slice e d) (fun xs => ∀ x ∈ xs, ok x)) {H : Type} {enc : TypeId × Value → H} {w : World} {base : Nat} {spare : Nat → Bool} {held : Bool} {A : Option Addr} {n c : Nat} {y : DataW H} {ps : List MemPlace}
    (h : DataW.Trod enc P w base spare held t (.slice A n c) y ps) : ∃ xs, n = xs.length ∧ xs.length ≤ c ∧ d.C w A xs.length xs ∧ ∀ x ∈ xs, ok x := by
  obtain ⟨fuel, hf⟩ := h
  obtain ⟨_, xs, ⟨A', c', hcs, hl, hC⟩, hok⟩ := he.open_ hf
  have e : (Value.slice A n c).cells.toList = [.slice A n c] := rfl
  rw [e] at hcs
  injection hcs with hcs _
  injection hcs with h1 h2 h3
  subst h1 h2 h3
  exact ⟨xs, rfl, hl, hC, hok⟩
end Go.Proofs.Ytfcmdhimlfoofaa.Opens


/- From data that can be read to lists and numbers: arrays, and parameters that are structs or arrays. -/
namespace Go.Proofs.Ytfcmdhimlfoofaa.Opens
open Go Go.RowKit Go.Proofs.YtfcmdhimlfoofaaW.PrintWords
set_option linter.unusedVariables false
theorem okWide_array {P : Program} {w : World} {r : Reach} {base : Nat} {t e : TypeId} {n : Nat} {v : Value} (ht : P.underlying t = some (.array n e)) (h : Value.okWide P w r base t v) : ∃ cs, v = .agg cs ∧ cs.size = P.cellsOf t := by
  simp only [Value.okWide, ht] at h
  obtain ⟨cs, h1, h2, _⟩ := h
  exact ⟨cs, h1, h2⟩
theorem okWide_structs {P : Program} {w : World} {r : Reach} {base : Nat} {t : TypeId} {fs : Array Field} {v : Value} (ht : P.underlying t = some (.struct fs)) (h : Value.okWide P w r base t v) : ∃ cs, v = .agg cs ∧ cs.size = P.cellsOf t := by
  simp only [Value.okWide, ht] at h
  obtain ⟨cs, h1, h2, _⟩ := h
  exact ⟨cs, h1, h2⟩
theorem list_of_all {α : Type} {n : Nat} {p : Nat → α → Prop} (h : ∀ i, i < n → ∃ a, p i a) : ∃ xs : List α, xs.length = n ∧ ∀ i (hi : i < xs.length), p i xs[i] := by
  induction n with
  | zero => exact ⟨[], rfl, fun i hi => absurd hi (by simp)⟩
  | succ n ih =>
    obtain ⟨xs, hx, hp⟩ := ih (fun i hi => h i (by omega))
    obtain ⟨a, ha⟩ := h n (by omega)
    refine ⟨xs ++ [a], by simp [hx], fun i hi => ?_⟩
    by_cases hik : i < xs.length
    · rw [List.getElem_append_left hik]
      exact hp i hik
    · have : i = n := by simp at hi; omega
      subst this
      rw [List.getElem_append_right (by omega)]
      simpa [hx] using ha
theorem Opn.array {α : Type} {P : Program} {t e : TypeId} {n : Nat} {d : Kd α} {ok : α → Prop} (hs : 0 < d.sz) (ht : P.underlying t = some (.array n e)) (hc : P.cellsOf t = n * d.sz) (he : Opn P e d ok) : Opn P t (Kd.arr n d hs) (fun xs => ∀ x ∈ xs, ok x) :=
  ⟨hc, fun {H enc w base spare held fuel cs x} hx => by
    obtain ⟨xs, m, _, ex, hlen, hl, hel⟩ := DataW.trod_array ht hx
    have hlc : cs.length = n * d.sz := hlen.trans hc
    have hall : ∀ i, i < n → ∃ a, d.K w a ((cs.drop (i * d.sz)).take d.sz) ∧ ok a := by
      intro i hi
      have h1 := hel i hi
      rw [he.size] at h1
      obtain ⟨_, a, h2, h3⟩ := he.open_ (h1.trans (List.getElem?_eq_getElem (by omega)))
      exact ⟨a, h2, h3⟩
    obtain ⟨ys, hy, hp⟩ := list_of_all hall
    refine ⟨hlc, ys, ⟨hy, by rw [hlc, hy], fun j p hj => ?_⟩, fun y hy' => ?_⟩
    · obtain ⟨hlt, rfl⟩ := List.getElem?_eq_some_iff.1 hj
      exact (hp j hlt).1
    · obtain ⟨i, hi, rfl⟩ := List.mem_iff_getElem.1 hy'
      exact (hp i hi).2⟩
theorem Opn.agg {α : Type} {P : Program} {t : TypeId} {d : Kd α} {ok : α → Prop} (he : Opn P t d ok) {H : Type} {enc : TypeId × Value → H} {w : World} {base : Nat} {spare : Nat → Bool} {held : Bool} {cs : Array Value} {y : DataW H} {ps : List MemPlace}
    (h : DataW.Trod enc P w base spare held t (.agg cs) y ps) : ∃ x, d.K w x cs.toList ∧ ok x := by
  obtain ⟨fuel, hf⟩ := h
  exact (he.open_ hf).2
end Go.Proofs.Ytfcmdhimlfoofaa.Opens


/- A string turned into bytes: what the new memory reads as. -/
namespace Go.Proofs.Ytfcmdhimlfoofaa.Hand
open Go Go.RowKit Go.Proofs.YtfcmdhimlfoofaaW.PrintWords Go.Proofs.YtfcmdhimlfoofaaW.PrintLast Go.Proofs.YtfcmdhimlfoofaaW.PrintMore
set_option linter.unusedVariables false
theorem bytesOf_str {xs : List Int} (hb : ∀ x ∈ xs, 0 ≤ x ∧ x < 256) : bytesOf (strOfNums xs) = xs := by
  unfold bytesOf
  rw [strOfNums_data]
  apply List.ext_getElem (by simp)
  intro i h1 h2
  have := hb xs[i] (List.getElem_mem _)
  simp only [List.getElem_map, UInt8.toNat_ofNat']
  omega
theorem str_of_bytesOf (s : ByteArray) : strOfNums (bytesOf s) = s := by
  apply ByteArray.ext
  apply Array.toList_inj.1
  rw [strOfNums_data]
  unfold bytesOf
  apply List.ext_getElem (by simp)
  intro i h1 h2
  simp
theorem bytesOf_bytes (s : ByteArray) : ∀ x ∈ bytesOf s, 0 ≤ x ∧ x < 256 := by
  intro x hx
  simp only [bytesOf, List.mem_map] at hx
  obtain ⟨b, _, rfl⟩ := hx
  have := b.toNat_lt
  omega
theorem bytesW_C (W : World) {xs : List Int} (hb : ∀ x ∈ xs, 0 ≤ x ∧ x < 256) (hl : xs.length ≤ 9223372036854775807) : Kd.C (Kd.int .u8) (Lib.bytesWorld W 5 (strOfNums xs)) (some ⟨W.heap.size, 0, none⟩) xs.length xs := by
  have h := bytes_reads W 5 (strOfNums xs) (by rw [strOfNums_size]; exact hl)
  rw [bytesOf_str hb, strOfNums_size] at h
  exact Kd.C_of_reads (enc := Value.int .u8) (d := 0) h
theorem bytesW_below (W : World) (s : ByteArray) : Below W.heap.size W (Lib.bytesWorld W 5 s) := bytes_below (Below.refl _ _) (Nat.le_refl _) _ _
end Go.Proofs.Ytfcmdhimlfoofaa.Hand


/- What the document's functions of the codec compute, over lists of bytes. -/
namespace Go.Proofs.Ytfcmdhimlfoofaa.Hand
open Go Go.RowKit Go.Proofs.Ytfcmdhimlfoofaa.Plain Go.Proofs.Ytfcmdhimlfoofaa.PAll Go.Proofs.YtfcmdhimlfoofaaW.PrintWords Go.Proofs.YtfcmdhimlfoofaaW.PrintLast Go.Proofs.YtfcmdhimlfoofaaW.PrintMore
set_option linter.unusedVariables false
set_option linter.unusedSimpArgs false
theorem digits_loop (d : Nat) : ∀ (k n : Nat) (w : Nat) (out : List Int) (i : Nat), n < 18446744073709551616 → w ≤ 8 → out.length ≤ i → i + d = w → d < k →
    mastheadref01_Digits.l0 k (n : Int) (w : Int) out (i : Int) = some (out ++ digs d n) := by
  induction d with
  | zero =>
    intro k n w out i hn hw ho hi hk
    obtain ⟨k, rfl⟩ : ∃ m, k = m + 1 := ⟨k - 1, by omega⟩
    simp only [mastheadref01_Digits.l0]
    rw [if_neg (by omega)]
    simp [digs]
  | succ d ih =>
    intro k n w out i hn hw ho hi hk
    obtain ⟨k, rfl⟩ : ∃ m, k = m + 1 := ⟨k - 1, by omega⟩
    simp only [mastheadref01_Digits.l0]
    have e1 : IntKind.u64.wrap (Int.tdiv (n : Int) 256) = ((n / 256 : Nat) : Int) := by
      have : Int.tdiv (n : Int) 256 = ((n / 256 : Nat) : Int) := by rw [Int.tdiv_eq_ediv_of_nonneg (by omega)]; simp
      rw [this, u64w_id (by omega) (by omega)]
    have e2 : wrap64 (Int.tmod (n : Int) 256) = ((n % 256 : Nat) : Int) := by
      rw [Int.tmod_eq_emod_of_nonneg (by omega), wrap64_id (by omega) (by omega)]; simp
    rw [if_pos (by omega), if_pos (by omega), e1, e2, wrap64_succ (by omega), ih k (n / 256) w _ (i + 1) (by omega) hw (by simp; omega) (by omega) (by omega)]
    simp [digs]
theorem held_tells (w : Int) : mastheadref01_Held.f w = some (wid w : Int) := by
  unfold mastheadref01_Held.f wid mn mx
  repeat' split
  all_goals first | omega | (simp <;> omega)
theorem value_loop (xs : List Int) (hb : ∀ x ∈ xs, 0 ≤ x ∧ x < 256) (hl : xs.length ≤ 8) (i : Nat) : ∀ (k : Nat), i ≤ xs.length → i < k →
    mastheadref01_Value.l0 k xs (val (xs.drop i)) ((i : Int) - 1) = some (val xs) := by
  induction i with
  | zero =>
    intro k hi hk
    obtain ⟨k, rfl⟩ : ∃ m, k = m + 1 := ⟨k - 1, by omega⟩
    simp only [mastheadref01_Value.l0]
    rw [if_neg (by omega)]
    simp
  | succ i ih =>
    intro k hi hk
    obtain ⟨k, rfl⟩ : ∃ m, k = m + 1 := ⟨k - 1, by omega⟩
    have hil : i < xs.length := by omega
    simp only [mastheadref01_Value.l0]
    rw [show (((i + 1 : Nat) : Int) - 1) = (i : Int) from by omega]
    have x1 : rd xs (i : Int) = xs[i] := by simp [rd, hil]
    have hx := hb xs[i] (List.getElem_mem hil)
    have hv' := val_u64 (xs.drop i) (fun x h => hb x (List.mem_of_mem_drop h)) (by simp; omega)
    have ed : val (xs.drop i) = xs[i] + 256 * val (xs.drop (i + 1)) := by
      rw [List.drop_eq_getElem_cons hil]
      rfl
    have hv := val_bounds (xs.drop (i + 1)) (fun x h => hb x (List.mem_of_mem_drop h))
    rw [if_pos (by omega), if_pos (by omega), if_pos (by omega), if_pos (by omega), x1]
    rw [u64w_id (n := val (xs.drop (i + 1)) * 256) (by omega) (by omega), u64w_id (n := xs[i]) (by omega) (by omega), u64w_id (by omega) (by omega)]
    rw [show val (xs.drop (i + 1)) * 256 + xs[i] = val (xs.drop i) from by omega, wrap64_id (by omega) (by omega)]
    exact ih k (by omega) (by omega)
theorem value_tells (xs : List Int) (hb : ∀ x ∈ xs, 0 ≤ x ∧ x < 256) (hl : xs.length ≤ 8) (k : Nat) (hk : 10 ≤ k) : mastheadref01_Value.f k xs = some (val xs) := by
  unfold mastheadref01_Value.f
  have := value_loop xs hb hl xs.length k (Nat.le_refl _) (by omega)
  rw [wrap64_id (by omega) (by omega)]
  simpa [val] using this
theorem str_append (a b : List Int) : strOfNums (a ++ b) = strOfNums a ++ strOfNums b := by
  apply ByteArray.ext
  simp [strOfNums, ByteArray.data_append]
theorem str_extract (l : List Int) (a b : Nat) : (strOfNums l).extract a b = strOfNums ((l.drop a).take (b - a)) := by
  apply ByteArray.ext
  apply Array.toList_inj.1
  simp [strOfNums, ByteArray.data_extract, List.extract_eq_take_drop]
theorem str_inj {a b : List Int} (ha : ∀ x ∈ a, 0 ≤ x ∧ x < 256) (hb : ∀ x ∈ b, 0 ≤ x ∧ x < 256) (h : strOfNums a = strOfNums b) : a = b := by
  have h1 : (strOfNums a).data.toList = (strOfNums b).data.toList := by rw [h]
  rw [strOfNums_data, strOfNums_data] at h1
  have hlen : a.length = b.length := by simpa using congrArg List.length h1
  apply List.ext_getElem hlen
  intro i h2 h3
  have h4 : (a.map fun n => UInt8.ofNat n.toNat)[i]'(by simpa using h2) = (b.map fun n => UInt8.ofNat n.toNat)[i]'(by simpa using h3) := by simp only [h1]
  simp only [List.getElem_map] at h4
  have h5 := congrArg UInt8.toNat h4
  have ba := ha a[i] (List.getElem_mem _)
  have bb := hb b[i] (List.getElem_mem _)
  simp only [UInt8.toNat_ofNat'] at h5
  omega
theorem digits_tells (n : Nat) (w : Nat) (hn : n < 18446744073709551616) (hw : w ≤ 8) (k : Nat) (hk : 10 ≤ k) : mastheadref01_Digits.f k (n : Int) (w : Int) = some (digs w n) := by
  unfold mastheadref01_Digits.f
  have := digits_loop w k n w [] 0 hn hw (by simp) (by omega) (by omega)
  simpa using this
theorem rnum_loop (ds : List Int) (hb : ∀ x ∈ ds, 0 ≤ x ∧ x < 256) (hl : ds.length ≤ 8) (d : Nat) : ∀ (k i : Nat), i + d = ds.length → d < k →
    mastheadref06_Num.l0 k (ds.take i) ds (ds.length : Int) (i : Int) = some (strOfNums ds) := by
  induction d with
  | zero =>
    intro k i hi hk
    obtain ⟨k, rfl⟩ : ∃ m, k = m + 1 := ⟨k - 1, by omega⟩
    simp only [mastheadref06_Num.l0]
    rw [if_neg (by omega), List.take_of_length_le (by omega)]
  | succ d ih =>
    intro k i hi hk
    obtain ⟨k, rfl⟩ : ∃ m, k = m + 1 := ⟨k - 1, by omega⟩
    have hil : i < ds.length := by omega
    simp only [mastheadref06_Num.l0]
    have x1 : rd ds (i : Int) = ds[i] := by simp [rd, hil]
    have hx := hb ds[i] (List.getElem_mem hil)
    rw [if_pos (by omega), if_pos (by omega), if_pos (by omega), if_pos (by simp; omega), x1, wrap64_succ (by omega)]
    have e : ds.take i ++ [ds[i] % 256] = ds.take (i + 1) := by
      rw [List.take_succ_eq_append_getElem hil, Int.emod_eq_of_lt hx.1 hx.2]
    rw [e]
    exact ih k (i + 1) (by omega) (by omega)
theorem rnum_tells (n : Nat) (a : Int) (hn : n < 18446744073709551616) (k : Nat) (hk : 10 ≤ k) : mastheadref06_Num.f k (n : Int) a = some (strOfNums (digs (wid a) n)) := by
  unfold mastheadref06_Num.f
  have hw := wid_le a
  rw [held_tells]
  simp only [Option.bind_some]
  rw [digits_tells n (wid a) hn hw k hk]
  simp only [Option.bind_some]
  have := rnum_loop (digs (wid a) n) (digs_bytes _ _) (by rw [digs_length]; exact hw) (digs (wid a) n).length k 0 (by omega) (by rw [digs_length]; omega)
  simpa using this
theorem rvar_tells (n : Nat) (hn : n < 18446744073709551616) (k : Nat) (hk : 10 ≤ k) : mastheadref06_Var.f k (n : Int) = some (strOfNums (varB n)) := by
  unfold mastheadref06_Var.f varB
  by_cases c1 : n < 253
  · rw [if_pos (by omega), if_pos c1, rnum_tells n 1 hn k hk]; rfl
  · rw [if_neg (by omega), if_neg c1]
    by_cases c2 : n ≤ 65535
    · rw [if_pos (by omega), if_pos c2, rnum_tells n 2 hn k hk]
      simp only [Option.bind_some]
      rw [if_pos (by rw [strOfNums_size, digs_length]; have := wid_le 2; omega), str_append]
      rfl
    · rw [if_neg (by omega), if_neg c2]
      by_cases c3 : n ≤ 4294967295
      · rw [if_pos (by omega), if_pos c3, rnum_tells n 4 hn k hk]
        simp only [Option.bind_some]
        rw [if_pos (by rw [strOfNums_size, digs_length]; have := wid_le 4; omega), str_append]
        rfl
      · rw [if_neg (by omega), if_neg c3, rnum_tells n 8 hn k hk]
        simp only [Option.bind_some]
        rw [if_pos (by rw [strOfNums_size, digs_length]; have := wid_le 8; omega), str_append]
        rfl
theorem rtake_tells (xs : List Int) (e n : Int) (hl : xs.length ≤ 1000000) : mastheadref06_Take.f (strOfNums xs) e n = some (strOfNums (xs.drop (takeR xs 0 e n).2.1), (takeR xs 0 e n).2.2, strOfNums (takeR xs 0 e n).1) := by
  have hs := strOfNums_size xs
  have e0 : strOfNums ([] : List Int) = (⟨#[]⟩ : ByteArray) := rfl
  by_cases c1 : e = 0
  · by_cases c2 : n < 0
    · have ht : takeR xs 0 e n = ([], 0, 0) := by
        unfold takeR
        rw [if_neg (by omega), if_neg (by omega), show n.toNat = 0 from by omega]
        simp
      rw [ht]
      unfold mastheadref06_Take.f
      rw [if_pos c1, if_pos c2, if_neg (by omega), if_pos (by omega), if_pos (by omega)]
      simp [str_extract, e0]
      rfl
    · by_cases c3 : (xs.length : Int) < n
      · have ht : takeR xs 0 e n = ([], 0, 2) := by
          unfold takeR
          rw [if_neg (by omega), if_pos (by omega)]
        rw [ht]
        unfold mastheadref06_Take.f
        rw [if_pos c1, if_neg c2, if_pos (by omega)]
        simp [e0]
      · have ht : takeR xs 0 e n = (xs.take n.toNat, n.toNat, 0) := by
          unfold takeR
          rw [if_neg (by omega), if_neg (by omega)]
          simp
        rw [ht]
        unfold mastheadref06_Take.f
        rw [if_pos c1, if_neg c2, if_neg (by omega), if_pos (by omega), if_pos (by omega)]
        simp only [str_extract, hs]
        simp
        rw [List.take_of_length_le (by simp)]
  · have ht : takeR xs 0 e n = ([], 0, e) := by
      unfold takeR
      rw [if_pos c1]
    rw [ht]
    unfold mastheadref06_Take.f
    rw [if_neg c1]
    simp [e0]
end Go.Proofs.Ytfcmdhimlfoofaa.Hand


/- The document's functions of the codec, walked: Text, Number. -/
namespace Go.Proofs.Ytfcmdhimlfoofaa.Hand
open Go Go.RowKit Go.Proofs.Ytfcmdhimlfoofaa.Plain Go.Proofs.Ytfcmdhimlfoofaa.PAll Go.Proofs.YtfcmdhimlfoofaaW.PrintWords Go.Proofs.YtfcmdhimlfoofaaW.PrintLast Go.Proofs.YtfcmdhimlfoofaaW.PrintMore
set_option linter.unusedVariables false
set_option linter.unusedSimpArgs false
attribute [local go_sem ↓] Go.wp_at_zero Go.wp_at_succ
theorem far_cell {w : World} {b r o : Nat} {v : Value} (h : w.cell? ⟨b, o, none⟩ = some v) (hne : b ≠ r) (j : Nat) (u : Value) : (w.setCell ⟨r, j, none⟩ u).cell? ⟨b, o, none⟩ = some v := by
  rw [← h]
  exact World.cell?_of_block (Below.heap_setCell w ⟨r, j, none⟩ u b hne)
def inV (s : ByteArray) (e : Int) : Value := .agg #[.string s, .int .i64 e]
theorem rtake_calls (xs : List Int) (e n : Int) (hl : xs.length ≤ 1000000) (w : World) : Calls Try.prog 59 #[.agg #[.string (strOfNums xs), .int .i64 e], .int .i64 n] w fun x w' => x = .returned (.tuple #[.agg #[.string (strOfNums (xs.drop (takeR xs 0 e n).2.1)), .int .i64 (takeR xs 0 e n).2.2], .string (strOfNums (takeR xs 0 e n).1)]) ∧ Below w.heap.size w w' :=
  mastheadref06_Take.calls _ _ _ _ _ _ w (rtake_tells xs e n hl)
theorem held_same (a : Int) (w : World) : Calls Try.prog 60 #[.int .i64 a] w fun e w' => e = .returned (.int .i64 (wid a : Nat)) ∧ w = w' := by
  have hw : ((wid a : Nat) : Int) = if a < 0 then 0 else if 8 < a then 8 else a := by
    unfold wid mn mx
    repeat' split
    all_goals omega
  rw [hw]
  clear hw
  by_cases c1 : a < 0
  · have f1 : decide (a < 0) = true := decide_eq_true c1
    rw [if_pos c1]
    go_enter Try.func60, Try.ntmps60
    go_wp2
    go_ret
    exact ⟨rfl, rfl⟩
  · have f1 : decide (a < 0) = false := decide_eq_false c1
    rw [if_neg c1]
    by_cases c2 : 8 < a
    · have f2 : decide (8 < a) = true := decide_eq_true c2
      rw [if_pos c2]
      go_enter Try.func60, Try.ntmps60
      go_wp2
      go_ret
      exact ⟨rfl, rfl⟩
    · have f2 : decide (8 < a) = false := decide_eq_false c2
      rw [if_neg c2]
      go_enter Try.func60, Try.ntmps60
      go_wp2
      go_ret
      exact ⟨rfl, rfl⟩
set_option maxHeartbeats 4000000 in
set_option maxRecDepth 100000 in
theorem rnumber_calls (xs : List Int) (e a : Int) (hl : xs.length ≤ 1000000) (hb : ∀ x ∈ xs, 0 ≤ x ∧ x < 256) (w : World) : Calls Try.prog 35 #[.agg #[.string (strOfNums xs), .int .i64 e], .int .i64 a] w fun x w' => x = .returned (.tuple #[.agg #[.string (strOfNums (xs.drop (numR xs 0 e a).2.1)), .int .i64 (numR xs 0 e a).2.2], .int .u64 (numR xs 0 e a).1]) ∧ Below w.heap.size w w' := by
  have HT := Lib.hid (fun (w : World) => rtake_calls xs e (wid a : Nat) hl w)
  have hby := takeR_bytes hb 0 e (wid a : Nat)
  have hln := takeR_len xs 0 e (wid a : Nat)
  have hw8 := wid_le a
  unfold numR
  obtain ⟨r, hr⟩ : ∃ r, takeR xs 0 e (wid a : Nat) = r := ⟨_, rfl⟩
  rw [hr] at HT hby hln ⊢
  obtain ⟨ys, p1, x1⟩ := r
  simp only at HT hby hln ⊢
  have HVAL := Lib.hid (value_tells ys hby (by omega) 20 (by omega))
  obtain ⟨s, hs⟩ : ∃ s, strOfNums xs = s := ⟨_, rfl⟩
  obtain ⟨s1, hs1⟩ : ∃ s1, strOfNums (xs.drop p1) = s1 := ⟨_, rfl⟩
  have HY : Hid (ys.length ≤ 8) := Lib.hid (by omega)
  rw [hs, hs1] at HT
  rw [hs, hs1]
  have HBY := Lib.hid hby
  have HYM := Lib.hid (show ys.length ≤ 9223372036854775807 by omega)
  have kb := fun W => print_bytes (P := Try.prog) 9 23 5 Try.underlying9 Try.underlying23 Try.underlying5 (strOfNums ys) W
  simp only [strOfNums_size] at kb
  clear hb hl hby hln hr hs hs1
  go_enter Try.func35, Try.ntmps35
  go_wp2_with fail
  generalize hW2 : World.alloc _ _ = W2
  have HB2 := Lib.hid (show Below w.heap.size w W2 by rw [← hW2]; exact below_alloc (below_alloc (Below.refl _ _) _) _)
  have hk0 : W2.heap[w.heap.size]? = some (.cells #[.string s, .int .i64 e] 85 (0, 0)) := by rw [← hW2]; exact heap_alloc2_old _ _ _
  have hk1 : W2.heap[w.heap.size + 1]? = some (.cells #[.string ⟨#[]⟩, .int .i64 0] 85 (0, 0)) := by rw [← hW2]; exact heap_alloc2_new _ _ _
  have c0 := blk_cell hk0 0
  have c1 := blk_cell hk0 1
  have HK0 := Lib.hid hk0
  have HK1 := Lib.hid hk1
  have hsz2 := (show W2.heap.size = w.heap.size + 2 by rw [← hW2]; simp)
  simp only [List.getElem?_toArray, List.getElem?_cons_zero, List.getElem?_cons_succ] at c0 c1
  clear hk0 hk1 hW2
  have n0 := World.new_ne W2 _ c0
  have n1 := World.new_ne W2 _ c1
  go_region_held3 (fun w' => w'.cell? ⟨w.heap.size, 0, none⟩ = some (.string s) ∧ w'.cell? ⟨w.heap.size, 1, none⟩ = some (.int .i64 e)) (first | go_keep)
    (first | (go_at_call 60; refine (held_same _ _).mono ?_; rintro y w3 ⟨rfl, rfl⟩)
           | (go_at_call 59; refine (HT.out _).mono ?_; rintro y w4 ⟨rfl, hb4⟩; obtain ⟨hc4, hf4⟩ := bcell hb4; have hz4 := hb4.size; have HB4 := Lib.hid hb4; have k0 : w4.cell? ⟨w.heap.size, 0, none⟩ = some (.string s) := pw_cell_below hb4 (by go_keep); have k1 : w4.cell? ⟨w.heap.size, 1, none⟩ = some (.int .i64 e) := pw_cell_below hb4 (by go_keep); clear hb4))
  all_goals first
    | (have HB3 := Lib.hid ((below_drew HB2.out).trans (Below.mono HB4.out (by have := HB2.out.size; exact this)))
       have HB5 := Lib.hid (show Below w.heap.size w (w4.alloc (.cells #[.string s1, .int .i64 x1] 85)) from below_alloc HB3.out _)
       have HR5 := Lib.hid (show (w4.alloc (.cells #[.string s1, .int .i64 x1] 85)).heap[w.heap.size + 1]? = some (.cells #[.string ⟨#[]⟩, .int .i64 0] 85 (0, 0)) from (heap_alloc_old _ _ (by have h := hz4; have : W2.drew.heap.size = W2.heap.size := rfl; omega)).trans ((HB4.out.block _ (by show _ < W2.heap.size; omega)).trans HK1.out))
       have hk6 : (w4.alloc (.cells #[.string s1, .int .i64 x1] 85)).heap[w4.heap.size]? = some (.cells #[.string s1, .int .i64 x1] 85 (0, 0)) := heap_alloc_new _ _
       generalize (w4.alloc (.cells #[.string s1, .int .i64 x1] 85)) = W5 at *
       have BNE := Lib.hid (show w4.heap.size ≠ w.heap.size + 1 from by have h := hz4; have : W2.drew.heap.size = W2.heap.size := rfl; omega)
       generalize w4.heap.size = b6 at *
       clear hc4 hf4 hz4 k0 k1 c0 c1 n0 n1 hsz2)
    | (have HB3 := Lib.hid ((below_drew (below_alloc HB2.out (.cells #[.string ⟨#[]⟩, .int .i64 0] 85))).trans (Below.mono HB4.out (by have := (below_alloc HB2.out (.cells #[.string ⟨#[]⟩, .int .i64 0] 85)).size; exact this)))
       have h6 : w4.heap[w.heap.size + 2]? = some (.cells #[.string ⟨#[]⟩, .int .i64 0] 85 (0, 0)) := (HB4.out.block _ (by show _ < (W2.alloc _).heap.size; simp; omega)).trans (by rw [← hsz2]; exact heap_alloc_new _ _)
       have HR5 := Lib.hid (show ((w4.setCell ⟨w.heap.size + 2, 0, none⟩ (.string s1)).setCell ⟨w.heap.size + 2, 1, none⟩ (.int .i64 x1)).heap[w.heap.size + 1]? = some (.cells #[.string ⟨#[]⟩, .int .i64 0] 85 (0, 0)) from (Below.heap_setCell _ _ _ _ (by simp)).trans ((Below.heap_setCell _ _ _ _ (by simp)).trans ((HB4.out.block _ (by show _ < (W2.alloc _).heap.size; simp; omega)).trans ((heap_alloc_old _ _ (by omega)).trans HK1.out))))
       have hk6 : ((w4.setCell ⟨w.heap.size + 2, 0, none⟩ (.string s1)).setCell ⟨w.heap.size + 2, 1, none⟩ (.int .i64 x1)).heap[w.heap.size + 2]? = some (.cells #[.string s1, .int .i64 x1] 85 (0, 0)) := blk_set (blk_set h6 0 _) 1 _
       have HB5 := Lib.hid (show Below w.heap.size w ((w4.setCell ⟨w.heap.size + 2, 0, none⟩ (.string s1)).setCell ⟨w.heap.size + 2, 1, none⟩ (.int .i64 x1)) from (HB3.out.setCell (p := ⟨w.heap.size + 2, 0, none⟩) (by simp) _).setCell (p := ⟨w.heap.size + 2, 1, none⟩) (by simp) _)
       generalize ((w4.setCell ⟨w.heap.size + 2, 0, none⟩ (.string s1)).setCell ⟨w.heap.size + 2, 1, none⟩ (.int .i64 x1)) = W5 at *
       have BNE := Lib.hid (show w.heap.size + 2 ≠ w.heap.size + 1 from by omega)
       generalize w.heap.size + 2 = b6 at *
       clear hc4 hf4 hz4 k0 k1 c0 c1 n0 n1 hsz2)
  all_goals
    have c0 := blk_cell hk6 0
    have c1 := blk_cell hk6 1
    simp only [List.getElem?_toArray, List.getElem?_cons_zero, List.getElem?_cons_succ] at c0 c1
    have hne := BNE.out
    clear hk6 HB4 HB2 HK0 HK1
    go_wp2_with fail
    have c0b := pw_cell_below (bytesW_below W5.drew (strOfNums ys)) c0
    have c1b := pw_cell_below (bytesW_below W5.drew (strOfNums ys)) c1
    go_region_law (first | (go_simp; go_at_call 61; refine (mastheadref01_Value.calls 20 _ _ ys _ _ (bytesW_C _ HBY.out HYM.out) (grownCap_ge _ _ _ _) HVAL.out).mono ?_; rintro y w7 ⟨rfl, hd⟩; have hb7 := (bytesW_below W5.drew (strOfNums ys)).trans (Below.mono hd.below (bytesW_below _ _).size); have HB7 := Lib.hid hb7; have k0 : w7.cell? ⟨b6, 0, none⟩ = some (.string s1) := pw_cell_below hb7 c0; have k1 : w7.cell? ⟨b6, 1, none⟩ = some (.int .i64 x1) := pw_cell_below hb7 c1; have hr7 := (hb7.block _ (blk_lt HR5.out)).trans HR5.out; have HR7 := Lib.hid hr7; have r0 := blk_cell hr7 0; have r1 := blk_cell hr7 1; have r2 := blk_frozen hr7 0; have r3 := blk_frozen hr7 1; simp only [List.getElem?_toArray, List.getElem?_cons_zero, List.getElem?_cons_succ] at r0 r1; clear hd hb7 hr7))
    all_goals
      have HR9 := Lib.hid (blk_set (blk_set HR7.out 0 (.string s1)) 1 (.int .i64 x1))
      have HB9 := Lib.hid (((HB5.out.trans ((Below.mono (pw_below_drewN (Below.refl _ _) 1) HB5.out.size).trans (Below.mono HB7.out HB5.out.size))).setCell (p := ⟨w.heap.size + 1, 0, none⟩) (by simp) (.string s1)).setCell (p := ⟨w.heap.size + 1, 1, none⟩) (by simp) (.int .i64 x1))
      clear r0 r1 r2 r3 k0 k1 c0 c1 c0b c1b
      go_wp2_with fail
      exact bodyPost_ret (results_ct rfl _ _ (w.heap.size + 1) 85 #[.string s1, .int .i64 x1] (0, 0) _ rfl HR9.out Try.underlying85 rfl (by kernel_rfl)) rfl ⟨rfl, HB9.out⟩
end Go.Proofs.Ytfcmdhimlfoofaa.Hand


/- The document's Text of the codec, walked. -/
namespace Go.Proofs.Ytfcmdhimlfoofaa.Hand
open Go Go.RowKit Go.Proofs.Ytfcmdhimlfoofaa.Plain Go.Proofs.Ytfcmdhimlfoofaa.PAll Go.Proofs.YtfcmdhimlfoofaaW.PrintWords Go.Proofs.YtfcmdhimlfoofaaW.PrintLast Go.Proofs.YtfcmdhimlfoofaaW.PrintMore
set_option linter.unusedVariables false
set_option linter.unusedSimpArgs false
attribute [local go_sem ↓] Go.wp_at_zero Go.wp_at_succ
set_option maxHeartbeats 1000000 in
theorem rtext_calls (s : ByteArray) (hs : s.size ≤ 1000000) (w : World) : Calls Try.prog 48 #[.string s] w fun e w' => e = .returned (.string (strOfNums (varB s.size) ++ s)) ∧ Below w.heap.size w w' := by
  have hu : IntKind.u64.wrap (s.size : Int) = (s.size : Int) := u64w_id (by omega) (by omega)
  have HV := Lib.hid (rvar_tells s.size (by omega) 20 (by omega))
  have HL := Lib.hid (show (strOfNums (varB s.size)).size ≤ 9 by rw [strOfNums_size]; exact varB_length _)
  obtain ⟨t, ht⟩ : ∃ t, strOfNums (varB s.size) = t := ⟨_, rfl⟩
  rw [ht] at HV HL ⊢
  have f1 : (9223372036854775807 < t.size + s.size) = False := eq_false (by have := HL.out; omega)
  clear hs ht
  go_enter Try.func48, Try.ntmps48
  go_wp2_with fail
  refine (mastheadref06_Var.calls 20 (s.size : Int) t _ HV.out).mono ?_
  rintro e w1 ⟨rfl, hb⟩
  have HB := Lib.hid hb
  clear hb hu
  go_wp2_with fail
  go_ret
  exact ⟨rfl, HB.out⟩
end Go.Proofs.Ytfcmdhimlfoofaa.Hand


/- A hash's zero. -/
namespace Go.Proofs.Ytfcmdhimlfoofaa.Hand
open Go Go.RowKit Go.Proofs.YtfcmdhimlfoofaaW.PrintWords
theorem infoHash : (Try.prog.info? 28).map (fun i => (i.zero, i.size)) = some (some (.agg (nums .u8 (List.replicate 32 0)).toArray), 32) := by kernel_rfl
end Go.Proofs.Ytfcmdhimlfoofaa.Hand


/- A header's hash: walked. -/
namespace Go.Proofs.Ytfcmdhimlfoofaa.Hand
open Go Go.RowKit Go.Proofs.Ytfcmdhimlfoofaa.Plain Go.Proofs.Ytfcmdhimlfoofaa.PAll Go.Proofs.YtfcmdhimlfoofaaW.PrintWords Go.Proofs.YtfcmdhimlfoofaaW.PrintLast Go.Proofs.YtfcmdhimlfoofaaW.PrintMore
set_option linter.unusedVariables false
set_option linter.unusedSimpArgs false
set_option maxRecDepth 100000
attribute [local go_sem ↓] Go.wp_at_zero Go.wp_at_succ
theorem headB_len (v : Int) (p r : List Int) (t b n : Int) (hp : p.length = 32) (hr : r.length = 32) : (headB v p r t b n).length = 80 := by simp [headB, digs_length, hp, hr]
theorem headB_bytes (v : Int) {p r : List Int} (t b n : Int) (hp : ∀ x ∈ p, 0 ≤ x ∧ x < 256) (hr : ∀ x ∈ r, 0 ≤ x ∧ x < 256) : ∀ x ∈ headB v p r t b n, 0 ≤ x ∧ x < 256 := by
  intro x hx
  simp only [headB, List.mem_append] at hx
  rcases hx with (((h | h | h) | h) | h) | h
  · exact digs_bytes _ _ _ h
  · exact hp x h
  · exact hr x h
  · exact digs_bytes _ _ _ h
  · exact digs_bytes _ _ _ h
  · exact digs_bytes _ _ _ h
theorem hcells_one (v : Int) (p r : List Int) (t b n : Int) : (hcells v p r t b n).toArray.all (·.oneCell') = true := by
  refine all_oneCell_toArray fun x hx => ?_
  simp only [hcells, List.mem_cons, List.mem_append, List.mem_nil_iff, or_false] at hx
  rcases hx with rfl | h | h | rfl | rfl | rfl
  · rfl
  · exact nums_one _ _ x h
  · exact nums_one _ _ x h
  · rfl
  · rfl
  · rfl
end Go.Proofs.Ytfcmdhimlfoofaa.Hand


/- The law's Ref: a header's document's form: walked. -/
namespace Go.Proofs.Ytfcmdhimlfoofaa.Hand
open Go Go.RowKit Go.Proofs.Ytfcmdhimlfoofaa.Plain Go.Proofs.Ytfcmdhimlfoofaa.PAll Go.Proofs.YtfcmdhimlfoofaaW.PrintWords Go.Proofs.YtfcmdhimlfoofaaW.PrintLast Go.Proofs.YtfcmdhimlfoofaaW.PrintMore
set_option linter.unusedVariables false
set_option linter.unusedSimpArgs false
set_option maxRecDepth 100000
theorem built_ref (v : Int) (p r : List Int) (t b n : Int) (hp : p.length = 32) (hr : r.length = 32) : Try.prog.built 72 [(0, .int .u32 v), (1, .agg (nums .u8 p).toArray), (2, .agg (nums .u8 r).toArray), (3, .int .u32 t), (4, .int .u32 b), (5, .int .u32 n)] = some (hcells v p r t b n).toArray := by
  obtain ⟨x0, x1, x2, x3, x4, x5, x6, x7, x8, x9, x10, x11, x12, x13, x14, x15, x16, x17, x18, x19, x20, x21, x22, x23, x24, x25, x26, x27, x28, x29, x30, x31, rfl⟩ := list32 p hp
  obtain ⟨y0, y1, y2, y3, y4, y5, y6, y7, y8, y9, y10, y11, y12, y13, y14, y15, y16, y17, y18, y19, y20, y21, y22, y23, y24, y25, y26, y27, y28, y29, y30, y31, rfl⟩ := list32 r hr
  kernel_rfl
theorem infoR : (Try.prog.info? 72).map (fun i => (i.zero, i.size)) = some (some (.agg (hcells 0 z32 z32 0 0 0).toArray), 68) := by kernel_rfl
/-- The two hashes in a header's cells. -/
theorem hash_ranges {w : World} {bx : Nat} {tt : TypeId} (v : Int) (p r : List Int) (t b n : Int) (hp : p.length = 32) (h : w.heap[bx]? = some (.cells (hcells v p r t b n).toArray tt (0, 0))) :
    w.rangeAt bx 1 (nums .u8 p) ∧ w.rangeAt bx 33 (nums .u8 r) := by
  have hl : (nums .u8 p).length = 32 := by simp [nums, hp]
  refine ⟨fun j u hj => ?_, fun j u hj => ?_⟩
  · have hlt := (List.getElem?_eq_some_iff.1 hj).1
    rw [blk_cell h, List.getElem?_toArray]
    unfold hcells
    rw [Nat.add_comm 1 j, List.getElem?_cons_succ, List.getElem?_append_left hlt]
    exact hj
  · have hlt := (List.getElem?_eq_some_iff.1 hj).1
    rw [blk_cell h, List.getElem?_toArray]
    unfold hcells
    rw [show 33 + j = (32 + j) + 1 by omega, List.getElem?_cons_succ, List.getElem?_append_right (by omega), hl, show 32 + j - 32 = j by omega, List.getElem?_append_left hlt]
    exact hj
set_option maxHeartbeats 1000000 in
theorem lref_calls (v : Int) (p r : List Int) (t b n : Int) (w : World) (hp : p.length = 32) (hr : r.length = 32) :
    Calls Try.prog 28 #[hV v p r t b n] w fun e w' => e = .returned (hV v p r t b n) ∧ Below w.heap.size w w' := by
  have hbr := built_ref v p r t b n hp hr
  have hz := (zero_of_info infoR).1
  have hr32 := hash_ranges (w := (w.alloc (.cells (hcells v p r t b n).toArray 54)).alloc (.cells (hcells 0 z32 z32 0 0 0).toArray 72)) v p r t b n hp (heap_alloc2_old w _ _)
  obtain ⟨a5, a6, a7⟩ := hcells_at v p r t b n hp hr
  have a0 := hcells_at0 v p r t b n
  have hsz : (Try.prog.info? 72).map (·.size) = some (hcells v p r t b n).toArray.size := by
    rw [(zero_of_info infoR).2]
    simp [hcells_len v p r t b n hp hr]
  have hone := hcells_one v p r t b n
  have hzs : (hcells 0 z32 z32 0 0 0).toArray.size = (hcells v p r t b n).toArray.size := by
    simp [hcells_len v p r t b n hp hr, hcells_len 0 z32 z32 0 0 0 (by simp [z32]) (by simp [z32])]
  have hl1 : (nums .u8 p).length = 32 := by simp [nums, hp]
  have hl2 : (nums .u8 r).length = 32 := by simp [nums, hr]
  unfold hV
  obtain ⟨C, hC⟩ : ∃ C, (hcells v p r t b n).toArray = C := ⟨_, rfl⟩
  obtain ⟨Z, hZ⟩ : ∃ C, (hcells 0 z32 z32 0 0 0).toArray = C := ⟨_, rfl⟩
  obtain ⟨P, hP⟩ : ∃ C, nums .u8 p = C := ⟨_, rfl⟩
  obtain ⟨R, hR⟩ : ∃ C, nums .u8 r = C := ⟨_, rfl⟩
  rw [hC, hZ, hP, hR] at hr32
  rw [hP, hR, hC] at hbr
  rw [hZ] at hz
  rw [hC] at hsz hone a0 a5 a6 a7
  rw [hC, hZ] at hzs
  rw [hP] at hl1
  rw [hR] at hl2
  rw [hC]
  have hk := heap_alloc2_old w (.cells C 54) (.cells Z 72)
  have hkz := heap_alloc2_new w (.cells C 54) (.cells Z 72)
  have k0 := (blk_cell hk 0).trans a0
  have k65 := (blk_cell hk 65).trans a5
  have k66 := (blk_cell hk 66).trans a6
  have k67 := (blk_cell hk 67).trans a7
  have HX := Lib.hid (And.intro hr32 (And.intro hbr (And.intro hsz (And.intro hone (And.intro hzs hkz)))))
  have HL := Lib.hid (And.intro (show (Try.prog.info? 28).map (·.size) = some P.length by rw [hl1]; exact (zero_of_info infoHash).2) (And.intro (show (Try.prog.info? 28).map (·.size) = some R.length by rw [hl2]; exact (zero_of_info infoHash).2) Try.underlying28))
  have HB := Lib.hid (below_alloc (below_alloc (Below.refl w.heap.size w) (.cells C 54)) (.cells Z 72))
  have HUR := Lib.hid Try.underlying72
  clear hbr hr32 hsz hone hzs hl1 hl2 a0 a5 a6 a7 hC hZ hP hR hk hkz hp hr
  go_enter Try.func28, Try.ntmps28
  go_wp2_with (first
    | ((with_reducible show wpList _ _ _ (Oper.mk _ (Op.load _ (.tmp 5)) _ _ _ _ :: _) _ _); (go_loud (refine wpList_load_mid rfl 28 (.tmp 5) rfl w.heap.size 1 rfl P _ HX.out.1.1 HL.out.2.2 rfl HL.out.1 ?_)))
    | ((with_reducible show wpList _ _ _ (Oper.mk _ (Op.load _ (.tmp 7)) _ _ _ _ :: _) _ _); (go_loud (refine wpList_load_mid rfl 28 (.tmp 7) rfl w.heap.size 33 rfl R _ HX.out.1.2 HL.out.2.2 rfl HL.out.2.1 ?_)))
    | ((with_reducible show wpList _ _ _ (Oper.mk _ (Op.build _ _) _ _ _ _ :: _) _ _); (go_loud (refine wpl_build rfl 72 _ rfl #[(0, .int .u32 v), (1, .agg P.toArray), (2, .agg R.toArray), (3, .int .u32 t), (4, .int .u32 b), (5, .int .u32 n)] (by simp [Act.eval]) C HX.out.2.1 ?_)))
    | ((with_reducible show wpList _ _ _ (Oper.mk _ (Op.store _ _ _) _ _ _ _ :: _) _ _); (go_loud (refine wpList_store_row rfl 72 (.tmp 2) (.tmp 15) rfl (w.heap.size + 1) C rfl rfl 72 Z HX.out.2.2.2.2.2 HX.out.2.2.1 HX.out.2.2.2.2.1 HX.out.2.2.2.1 ?_))))
  exact bodyPost_ret (results_cell_row rfl _ _ (w.heap.size + 1) 72 C (0, 0) _ rfl (setRow_heap _ _ _ _ _ _ HX.out.2.2.2.2.2) HUR.out rfl HX.out.2.2.1) rfl ⟨rfl, below_setRow HB.out (by omega) _⟩
end Go.Proofs.Ytfcmdhimlfoofaa.Hand


/- The document's bytes of a header: walked. -/
namespace Go.Proofs.Ytfcmdhimlfoofaa.Hand
open Go Go.RowKit Go.Proofs.Ytfcmdhimlfoofaa.Plain Go.Proofs.Ytfcmdhimlfoofaa.PAll Go.Proofs.YtfcmdhimlfoofaaW.PrintWords Go.Proofs.YtfcmdhimlfoofaaW.PrintLast Go.Proofs.YtfcmdhimlfoofaaW.PrintMore
set_option linter.unusedVariables false
set_option linter.unusedSimpArgs false
set_option maxRecDepth 100000
attribute [local go_sem ↓] Go.wp_at_zero Go.wp_at_succ
theorem rnum4_calls (v : Int) (h0 : 0 ≤ v) (h1 : v < 4294967296) (W : World) : Calls Try.prog 49 #[.int .u64 v, .int .i64 4] W fun e w' => e = .returned (.string (strOfNums (digs 4 v.toNat))) ∧ Below W.heap.size W w' := by
  have h := rnum_tells v.toNat 4 (by omega) 20 (by omega)
  rw [wid4h, Int.toNat_of_nonneg h0] at h
  exact mastheadref06_Num.calls 20 v 4 _ W h
set_option maxHeartbeats 2000000 in
theorem rbytes_calls (v : Int) (p r : List Int) (t b n : Int) (w : World) (hp : p.length = 32) (hr : r.length = 32) (hv0 : 0 ≤ v) (hv1 : v < 4294967296) (ht0 : 0 ≤ t) (ht1 : t < 4294967296) (hb0 : 0 ≤ b) (hb1 : b < 4294967296) (hn0 : 0 ≤ n) (hn1 : n < 4294967296) :
    Calls Try.prog 47 #[hV v p r t b n] w fun e w' => e = .returned (.string (strOfNums (headB v p r t b n))) ∧ Below w.heap.size w w' := by
  have HV := Lib.hid (fun W => rnum4_calls v hv0 hv1 W)
  have HT := Lib.hid (fun W => rnum4_calls t ht0 ht1 W)
  have HB := Lib.hid (fun W => rnum4_calls b hb0 hb1 W)
  have HN := Lib.hid (fun W => rnum4_calls n hn0 hn1 W)
  have he : ((((strOfNums (digs 4 v.toNat) ++ strOfNums p) ++ strOfNums r) ++ strOfNums (digs 4 t.toNat)) ++ strOfNums (digs 4 b.toNat)) ++ strOfNums (digs 4 n.toNat) = strOfNums (headB v p r t b n) := by
    simp only [headB, str_append, ByteArray.append_assoc]
  have sv : (strOfNums (digs 4 v.toNat)).size = 4 := by rw [strOfNums_size, digs_length]
  have st : (strOfNums (digs 4 t.toNat)).size = 4 := by rw [strOfNums_size, digs_length]
  have sb : (strOfNums (digs 4 b.toNat)).size = 4 := by rw [strOfNums_size, digs_length]
  have sn : (strOfNums (digs 4 n.toNat)).size = 4 := by rw [strOfNums_size, digs_length]
  have sp : (strOfNums p).size = 32 := by rw [strOfNums_size, hp]
  have sr : (strOfNums r).size = 32 := by rw [strOfNums_size, hr]
  have wv : v % 18446744073709551616 = v := by omega
  have wt : t % 18446744073709551616 = t := by omega
  have wb : b % 18446744073709551616 = b := by omega
  have wn : n % 18446744073709551616 = n := by omega
  have wv' : IntKind.u64.wrap v = v := u64w_id (by omega) (by omega)
  have wt' : IntKind.u64.wrap t = t := u64w_id (by omega) (by omega)
  have wb' : IntKind.u64.wrap b = b := u64w_id (by omega) (by omega)
  have wn' : IntKind.u64.wrap n = n := u64w_id (by omega) (by omega)
  have hS : ∀ u : World, Below (w.heap.size + 1) (w.alloc (.cells (hcells v p r t b n).toArray 72)) u →
      (u.cell? ⟨w.heap.size, 0, none⟩ = some (.int .u32 v) ∧ (convert 23 9 (.slice (some ⟨w.heap.size, 1, none⟩) 32 32)).run Try.prog u = .ok (.string (strOfNums p)) u ∧ (convert 23 9 (.slice (some ⟨w.heap.size, 33, none⟩) 32 32)).run Try.prog u = .ok (.string (strOfNums r)) u) ∧ (u.cell? ⟨w.heap.size, 65, none⟩ = some (.int .u32 t) ∧ u.cell? ⟨w.heap.size, 66, none⟩ = some (.int .u32 b) ∧ u.cell? ⟨w.heap.size, 67, none⟩ = some (.int .u32 n)) := fun u hu => by
    have h := (hu.block w.heap.size (by omega)).trans (heap_alloc_new w (.cells (hcells v p r t b n).toArray 72))
    obtain ⟨a5, a6, a7⟩ := hcells_at v p r t b n hp hr
    have c1 := C_of_block (pre := [.int .u32 v]) (post := nums .u8 r ++ [.int .u32 t, .int .u32 b, .int .u32 n]) (k := .u8) (ys := p) (o := 1) (w := u) (b := w.heap.size) (t := 72) (fr := (0, 0)) (by rw [h]; rfl) rfl (by omega)
    have c2 := C_of_block (pre := .int .u32 v :: nums .u8 p) (post := [.int .u32 t, .int .u32 b, .int .u32 n]) (k := .u8) (ys := r) (o := 33) (w := u) (b := w.heap.size) (t := 72) (fr := (0, 0)) (by rw [h]; rfl) (by simp [nums, hp]) (by omega)
    have d1 := Kd.C_string (P := Try.prog) (src := 23) (dst := 9) (c := 32) Try.underlying23 Try.underlying5 Try.underlying9 c1
    have d2 := Kd.C_string (P := Try.prog) (src := 23) (dst := 9) (c := 32) Try.underlying23 Try.underlying5 Try.underlying9 c2
    rw [hp] at d1
    rw [hr] at d2
    exact ⟨⟨(blk_cell h 0).trans rfl, d1, d2⟩, (blk_cell h 65).trans a5, (blk_cell h 66).trans a6, (blk_cell h 67).trans a7⟩
  unfold hV
  obtain ⟨C, hC⟩ : ∃ C, (hcells v p r t b n).toArray = C := ⟨_, rfl⟩
  rw [hC] at hS ⊢
  obtain ⟨sV, e1⟩ : ∃ C, strOfNums (digs 4 v.toNat) = C := ⟨_, rfl⟩
  obtain ⟨sT, e2⟩ : ∃ C, strOfNums (digs 4 t.toNat) = C := ⟨_, rfl⟩
  obtain ⟨sB, e3⟩ : ∃ C, strOfNums (digs 4 b.toNat) = C := ⟨_, rfl⟩
  obtain ⟨sN, e4⟩ : ∃ C, strOfNums (digs 4 n.toNat) = C := ⟨_, rfl⟩
  obtain ⟨sP, e5⟩ : ∃ C, strOfNums p = C := ⟨_, rfl⟩
  obtain ⟨sR, e6⟩ : ∃ C, strOfNums r = C := ⟨_, rfl⟩
  obtain ⟨sH, e7⟩ : ∃ C, strOfNums (headB v p r t b n) = C := ⟨_, rfl⟩
  rw [e1] at HV sv he
  rw [e2] at HT st he
  rw [e3] at HB sb he
  rw [e4] at HN sn he
  rw [e5] at sp he hS
  rw [e6] at sr he hS
  rw [e7] at he ⊢
  have HE := Lib.hid he
  have HSS := Lib.hid hS
  have HB1 := Lib.hid (below_alloc (Below.refl w.heap.size w) (.cells C 72))
  have HZ := Lib.hid (show (w.alloc (.cells C 72)).heap.size = w.heap.size + 1 by simp)
  have HB0 := Lib.hid (below_drew (Below.refl (w.heap.size + 1) (w.alloc (.cells C 72))))
  obtain ⟨W1, hW1⟩ : ∃ W, w.alloc (.cells C 72) = W := ⟨_, rfl⟩
  rw [hW1] at HSS HB1 HB0 HZ
  have HW1 := Lib.hid hW1
  have HTR := Lib.hid (show ∀ u u' : World, Below (w.heap.size + 1) W1 u → Below u.heap.size u u' → Below (w.heap.size + 1) W1 u' from fun u u' hu hu' => hu.trans (Below.mono hu' (by have h7 := hu.size; have h8 := HZ.out; omega)))
  clear hp hr hv0 hv1 ht0 ht1 hb0 hb1 hn0 hn1 he hS hC e1 e2 e3 e4 e5 e6 e7 hW1
  go_enter Try.func47, Try.ntmps47
  go_wp2_with fail
  rw [HW1.out]
  go_region_held3 (fun u => u.cell? ⟨w.heap.size, 0, none⟩ = some (.int .u32 v) ∧ (convert 23 9 (.slice (some ⟨w.heap.size, 1, none⟩) 32 32)).run Try.prog u = .ok (.string sP) u ∧ (convert 23 9 (.slice (some ⟨w.heap.size, 33, none⟩) 32 32)).run Try.prog u = .ok (.string sR) u) (first | exact (HSS.out _ HB3.out).1 | exact (HSS.out _ HB0.out).1)
    (first | (go_at_call 49; (with_reducible refine (HV.out _).mono ?_); rintro e w3 ⟨rfl, hb3⟩; have HB3 := Lib.hid (HTR.out _ _ HB0.out hb3); clear hb3))
  all_goals
    have HD3 := Lib.hid (below_drew HB3.out)
    go_wp2_with fail
    go_region_held3 (fun u => u.cell? ⟨w.heap.size, 65, none⟩ = some (.int .u32 t) ∧ u.cell? ⟨w.heap.size, 66, none⟩ = some (.int .u32 b) ∧ u.cell? ⟨w.heap.size, 67, none⟩ = some (.int .u32 n)) (first | exact (HSS.out _ HB6.out).2 | exact (HSS.out _ HB5.out).2 | exact (HSS.out _ HB4.out).2 | exact (HSS.out _ HD3.out).2)
      (first
        | (go_at_call 49; (with_reducible refine (HT.out _).mono ?_); rintro e w4 ⟨rfl, hb4⟩; have HB4 := Lib.hid (HTR.out _ _ HD3.out hb4); clear hb4)
        | (go_at_call 49; (with_reducible refine (HB.out _).mono ?_); rintro e w5 ⟨rfl, hb5⟩; have HB5 := Lib.hid (HTR.out _ _ HB4.out hb5); clear hb5)
        | (go_at_call 49; (with_reducible refine (HN.out _).mono ?_); rintro e w6 ⟨rfl, hb6⟩; have HB6 := Lib.hid (HTR.out _ _ HB5.out hb6); clear hb6))
    all_goals
      go_wp2
      go_ret
      exact ⟨by rw [HE.out]; rfl, HB1.out.trans (Below.mono HB6.out (by omega))⟩
end Go.Proofs.Ytfcmdhimlfoofaa.Hand


/- A message as a parameter. -/
namespace Go.Proofs.Ytfcmdhimlfoofaa.Hand
open Go Go.RowKit Go.Proofs.Ytfcmdhimlfoofaa.Plain Go.Proofs.YtfcmdhimlfoofaaW.PrintWords Go.Proofs.YtfcmdhimlfoofaaW.PrintLast Go.Proofs.YtfcmdhimlfoofaaW.PrintMore
set_option linter.unusedVariables false
theorem C_iso {α β : Type} {d : Kd α} {f : β → α} (g : α → β) (hfg : ∀ x, f (g x) = x) {w : World} {A : Option Addr} {n : Nat} {xs : List α} (h : Kd.C d w A n xs) : Kd.C (Kd.iso d f) w A n (xs.map g) := by
  obtain ⟨h1, h2, h3⟩ := h
  refine ⟨by rw [List.length_map]; exact h1, h2, fun hn => ?_⟩
  obtain ⟨ad, e, h4⟩ := h3 hn
  refine ⟨ad, e, fun j p hj => ?_⟩
  rw [List.getElem?_map] at hj
  cases hx : xs[j]? with
  | none => rw [hx] at hj; cases hj
  | some x =>
    rw [hx] at hj
    obtain rfl := Option.some.inj hj
    obtain ⟨c, k1, k2, k3⟩ := h4 j x hx
    refine ⟨c, k1, ?_, k3⟩
    show d.K w (f (g x)) c
    rw [hfg]
    exact k2
/-- What the elements of a row that is read are, one by one. -/
theorem C_each {α : Type} {d : Kd α} {w : World} {A : Option Addr} {n : Nat} {xs : List α} (h : Kd.C d w A n xs) : ∀ x ∈ xs, ∃ c, d.K w x c := by
  obtain ⟨h1, h2, h3⟩ := h
  intro x hx
  obtain ⟨j, hj, rfl⟩ := List.mem_iff_getElem.1 hx
  obtain ⟨ad, e, h4⟩ := h3 (by omega)
  obtain ⟨c, k1, k2, k3⟩ := h4 j _ (List.getElem?_eq_getElem hj)
  exact ⟨c, k2⟩
abbrev HTup := Int × List Int × List Int × Int × Int × Int
abbrev ETup := List Int × Int × Int × List (List Int)
abbrev kHdT : Kd HTup := Kd.pair (Kd.int .u32) (Kd.pair kH (Kd.pair kH (Kd.pair (Kd.int .u32) (Kd.pair (Kd.int .u32) (Kd.int .u32)))))
def hdOf (x : HTup) : HT := ⟨x.1, x.2.1, x.2.2.1, x.2.2.2.1, x.2.2.2.2.1, x.2.2.2.2.2⟩
def etOf (x : ETup) : ET := ⟨x.1, x.2.1, x.2.2.1, x.2.2.2⟩
theorem u32_wf {a : Int} (h : (Lit.int .u32 a).wf = true) : 0 ≤ a ∧ a < 4294967296 := by
  have h2 := bounds_u32 h
  omega
/-- What an opened message says. -/
theorem msg_open {w : World} {e1 e2 e3 e4 e5 : Nat} {x : Int × List (List Int) × List Int × List HTup × List Int × List Int × List Int × List ETup × Int × Int × Int} {cs : Array Value}
    (K : (Kd.pair (Kd.int .i64) (Kd.pair (Kd.slice e1 kH) (Kd.pair kH (Kd.pair (Kd.slice e2 kHdT) (Kd.pair kH (Kd.pair (Kd.slice e3 (Kd.int .u8)) (Kd.pair (Kd.slice e4 (Kd.int .u8)) (Kd.pair (Kd.slice e5 (Kd.pair (Kd.slice 5 (Kd.int .u8)) (Kd.pair (Kd.int .i64) (Kd.pair (Kd.int .i64) (Kd.slice 28 kH))))) (Kd.pair (Kd.int .u64) (Kd.pair (Kd.int .i64) (Kd.int .i64))))))))))).K w x cs.toList)
    (hok : (Lit.int .i64 x.1).wf = true ∧ (∀ y ∈ x.2.1, ∀ z ∈ y, (Lit.int .u8 z).wf = true) ∧ (∀ z ∈ x.2.2.1, (Lit.int .u8 z).wf = true) ∧
      (∀ y ∈ x.2.2.2.1, (Lit.int .u32 y.1).wf = true ∧ (∀ z ∈ y.2.1, (Lit.int .u8 z).wf = true) ∧ (∀ z ∈ y.2.2.1, (Lit.int .u8 z).wf = true) ∧ (Lit.int .u32 y.2.2.2.1).wf = true ∧ (Lit.int .u32 y.2.2.2.2.1).wf = true ∧ (Lit.int .u32 y.2.2.2.2.2).wf = true) ∧
      (∀ z ∈ x.2.2.2.2.1, (Lit.int .u8 z).wf = true) ∧ (∀ z ∈ x.2.2.2.2.2.1, (Lit.int .u8 z).wf = true) ∧ (∀ z ∈ x.2.2.2.2.2.2.1, (Lit.int .u8 z).wf = true) ∧
      (∀ y ∈ x.2.2.2.2.2.2.2.1, (∀ z ∈ y.1, (Lit.int .u8 z).wf = true) ∧ (Lit.int .i64 y.2.1).wf = true ∧ (Lit.int .i64 y.2.2.1).wf = true ∧ (∀ p ∈ y.2.2.2, ∀ z ∈ p, (Lit.int .u8 z).wf = true)) ∧
      (Lit.int .u64 x.2.2.2.2.2.2.2.2.1).wf = true ∧ (Lit.int .i64 x.2.2.2.2.2.2.2.2.2.1).wf = true ∧ (Lit.int .i64 x.2.2.2.2.2.2.2.2.2.2).wf = true) :
    ∃ a m, (Value.agg cs) = mV a m ∧ MC w a m ∧ MWf m := by
  obtain ⟨kind, loc, stop, heads, block, item, data, ents, nonce, of_, code⟩ := x
  obtain ⟨o0, o1, o2, o3, o4, o5, o6, o7, o8, o9, o10⟩ := hok
  obtain ⟨c0, r0, q0, k0, c1, r1, q1, k1, c2, r2, q2, k2, c3, r3, q3, k3, c4, r4, q4, k4, c5, r5, q5, k5, c6, r6, q6, k6, c7, r7, q7, k7, c8, r8, q8, k8, c9, r9, q9, k9, k10⟩ := K
  obtain rfl : c0 = [.int .i64 kind] := k0
  obtain ⟨la, lc, rfl, l1, C1⟩ := k1
  obtain ⟨z2, rfl⟩ := kH_K k2
  obtain ⟨ha, hc, rfl, l3, C3⟩ := k3
  obtain ⟨z4, rfl⟩ := kH_K k4
  obtain ⟨ia, ic, rfl, l5, C5⟩ := k5
  obtain ⟨da, dc, rfl, l6, C6⟩ := k6
  obtain ⟨ea, ec, rfl, l7, C7⟩ := k7
  obtain rfl : c8 = [.int .u64 nonce] := k8
  obtain rfl : c9 = [.int .i64 of_] := k9
  obtain rfl : r9 = [.int .i64 code] := k10
  subst q9 q8 q7 q6 q5 q4 q3 q2 q1
  simp only at o0 o1 o2 o3 o4 o5 o6 o7 o8 o9 o10
  have N0 := Plain.wf_u64 o8
  refine ⟨⟨la, lc, ha, hc, ia, ic, da, dc, ea, ec⟩, ⟨kind, loc, stop, heads.map hdOf, block, item, data, ents.map etOf, nonce, of_, code⟩, ?_, ?_, ?_⟩
  · unfold mV
    congr 1
    apply Array.toList_inj.1
    rw [q0]
    simp only [mcells, List.length_map]
    simp
  · exact ⟨C1, l1, by rw [List.length_map]; exact C_iso hdOf (fun _ => rfl) C3, by rw [List.length_map]; exact l3, C5, l5, C6, l6, by rw [List.length_map]; exact C_iso etOf (fun _ => rfl) C7, by rw [List.length_map]; exact l7⟩
  · refine ⟨fun h hh => ⟨?_, Plain.wf_u8s (o1 h hh)⟩, ⟨z2, Plain.wf_u8s o2⟩, ?_, ⟨z4, Plain.wf_u8s o4⟩, Plain.wf_u8s o5, Plain.wf_u8s o6, ?_, ?_⟩
    · obtain ⟨c, hk⟩ := C_each C1 h hh
      exact (kH_K hk).1
    · intro h hh
      obtain ⟨y, hy, rfl⟩ := List.mem_map.1 hh
      obtain ⟨c, hk⟩ := C_each C3 y hy
      obtain ⟨_, _, _, _, _, _, _, ka, _, _, _, kb, _⟩ := hk
      obtain ⟨y0, y1, y2, y3, y4, y5⟩ := o3 y hy
      exact ⟨(kH_K ka).1, (kH_K kb).1, (u32_wf y0).1, (u32_wf y0).2, (u32_wf y3).1, (u32_wf y3).2, (u32_wf y4).1, (u32_wf y4).2, (u32_wf y5).1, (u32_wf y5).2, Plain.wf_u8s y1, Plain.wf_u8s y2⟩
    · intro h hh
      obtain ⟨y, hy, rfl⟩ := List.mem_map.1 hh
      obtain ⟨c, hk⟩ := C_each C7 y hy
      obtain ⟨_, _, _, _, _, _, _, _, _, _, _, _, kb⟩ := hk
      obtain ⟨y0, y1, y2, y3⟩ := o7 y hy
      obtain ⟨_, _, _, _, CP⟩ := kb
      refine ⟨Plain.wf_u8s y0, fun p hp => ⟨?_, Plain.wf_u8s (y3 p hp)⟩⟩
      obtain ⟨c, hk⟩ := C_each CP p hp
      exact (kH_K hk).1
    · obtain ⟨n, hn, hn2⟩ := N0
      exact ⟨by simp only; omega, by simp only; omega⟩
end Go.Proofs.Ytfcmdhimlfoofaa.Hand


/- Whether the document's message has a field, and whether it is within its bounds: walked. -/
namespace Go.Proofs.Ytfcmdhimlfoofaa.Hand
open Go Go.RowKit Go.Proofs.Ytfcmdhimlfoofaa.Plain Go.Proofs.Ytfcmdhimlfoofaa.PAll Go.Proofs.YtfcmdhimlfoofaaW.PrintWords Go.Proofs.YtfcmdhimlfoofaaW.PrintLast Go.Proofs.YtfcmdhimlfoofaaW.PrintMore
set_option linter.unusedVariables false
set_option linter.unusedSimpArgs false
set_option maxRecDepth 100000
attribute [local go_sem ↓] Go.wp_at_zero Go.wp_at_succ
theorem built_arr : Try.prog.built 27 [] = some (nums .u8 z32m).toArray := by kernel_rfl
theorem infoArr : (Try.prog.info? 27).map (·.size) = some 32 := by kernel_rfl
theorem eqA (S T : List Int) (hS : S.length = 32) (hT : T.length = 32) (w : World) : (Op.equalIn 10000 27 (.agg (nums .u8 S).toArray) (.agg (nums .u8 T).toArray)).run Try.prog w = .ok (S == T) w :=
  run_equalIn_nums (P := Try.prog) w 9998 27 5 32 .u8 Try.underlying27 Try.underlying5 (fun w => by rfl) S T hS hT
theorem str_nil (xs : List Int) : ((strOfNums xs).toList == []) = (xs.length == 0) := by
  cases xs with
  | nil => decide +kernel
  | cons x xs =>
    have h1 : ((x :: xs).length == 0) = false := by simp
    rw [h1]
    cases h : ((strOfNums (x :: xs)).toList == []) with
    | false => rfl
    | true =>
      have h2 : (strOfNums (x :: xs)).toList = [] := by simpa using h
      rw [ByteArray.toList_eq] at h2
      have h3 : (strOfNums (x :: xs)).size = 0 := by
        show (strOfNums (x :: xs)).data.size = 0
        rw [← Array.length_toList, h2]
        rfl
      rw [strOfNums_size] at h3
      simp at h3
set_option maxHeartbeats 8000000 in
theorem rnone_calls (a : RA) (m : MT) (f : Nat) (w : World) (hs : m.stop.length = 32) (hb : m.block.length = 32) (hf : f < 10) : Calls Try.prog 25 #[rmV a m, .int .u8 (chM f : Int)] w fun e w' => e = .returned (.bool (noneM m f)) ∧ Below w.heap.size w w' := by
  have h : RBox (w.alloc (.cells (rcells a m).toArray 44)) w.heap.size a m := ⟨by simpa using heap_alloc_new w _, hs, hb⟩
  obtain ⟨c0, c1, c34, c67, c68, c69, c70, c71, c72⟩ := rcells_at a m hs hb
  have HST := Lib.hid h.stop
  have HBL := Lib.hid h.block
  have hz : z32m.length = 32 := rfl
  have q1 := fun u => eqA m.stop z32m hs hz u
  have q2 := fun u => eqA m.block z32m hb hz u
  have HI1 := Lib.hid (show (Try.prog.info? 27).map (·.size) = some (nums .u8 m.stop).length by rw [infoArr]; simp [nums, hs])
  have HI2 := Lib.hid (show (Try.prog.info? 27).map (·.size) = some (nums .u8 m.block).length by rw [infoArr]; simp [nums, hb])
  have HZ := Lib.hid built_arr
  have HU := Lib.hid Try.underlying27
  have s1 := str_nil m.item
  have s2 := str_nil m.data
  have HBF := Lib.hid (below_alloc (Below.refl w.heap.size w) (.cells (rcells a m).toArray 44))
  unfold rmV
  obtain ⟨C, hC⟩ : ∃ C, (rcells a m).toArray = C := ⟨_, rfl⟩
  rw [hC] at c0 c1 c34 c67 c68 c69 c70 c71 c72 HST HBL HBF ⊢
  obtain ⟨kind, loc, stop, heads, block, item, data, ents, nonce, of_, code⟩ := m
  simp only at c0 c1 c34 c67 c68 c69 c70 c71 c72 HST HBL q1 q2 HI1 HI2 s1 s2
  unfold noneM
  obtain ⟨ZA, hZA⟩ : ∃ A, (nums .u8 z32m).toArray = A := ⟨_, rfl⟩
  obtain ⟨SL, hSL⟩ : ∃ A, nums .u8 stop = A := ⟨_, rfl⟩
  obtain ⟨BL, hBL⟩ : ∃ A, nums .u8 block = A := ⟨_, rfl⟩
  obtain ⟨Z, hZ⟩ : ∃ Z, z32m = Z := ⟨_, rfl⟩
  obtain ⟨sI, hsI⟩ : ∃ Z, strOfNums item = Z := ⟨_, rfl⟩
  obtain ⟨sD, hsD⟩ : ∃ Z, strOfNums data = Z := ⟨_, rfl⟩
  rw [hsI] at c67 s1
  rw [hsD] at c68 s2
  rw [hSL] at HST HI1
  rw [hBL] at HBL HI2
  rw [hZA] at HZ
  simp only [hZA, hSL, hBL] at q1 q2
  rw [hZ] at q1 q2 ⊢
  clear h hz hZA hSL hBL hZ hC hs hb hsI hsD
  rcases ten hf with rfl | rfl | rfl | rfl | rfl | rfl | rfl | rfl | rfl | rfl
  all_goals
    clear hf
    go_enter Try.func25, Try.ntmps25
    go_wp2_with (first
      | ((with_reducible show wpList _ _ _ (Oper.mk _ (Op.build _ _) _ _ _ _ :: _) _ _); (go_loud (refine wpl_build rfl 27 _ rfl #[] (by simp [Act.eval]) ZA HZ.out ?_)))
      | ((with_reducible show wpList _ _ _ (Oper.mk _ (Op.load 27 (.tmp 14)) _ _ _ _ :: _) _ _); (go_loud (refine wpList_load_mid rfl 27 (.tmp 14) rfl w.heap.size 2 rfl SL _ HST.out HU.out rfl HI1.out ?_)))
      | ((with_reducible show wpList _ _ _ (Oper.mk _ (Op.load 27 (.tmp 26)) _ _ _ _ :: _) _ _); (go_loud (refine wpList_load_mid rfl 27 (.tmp 26) rfl w.heap.size 35 rfl BL _ HBL.out HU.out rfl HI2.out ?_))))
    go_ret
    refine ⟨?_, HBF.out⟩
    first | rfl | simp [nat_beq0] | (rw [← s1]; rfl) | (rw [← s2]; rfl)
set_option maxHeartbeats 8000000 in
theorem rwithin_calls (a : RA) (m : MT) (f : Nat) (w : World) (hs : m.stop.length = 32) (hb : m.block.length = 32) (hm : RC w a m) (hf : f < 10) : Calls Try.prog 26 #[rmV a m, .int .u8 (chM f : Int)] w fun e w' => e = .returned (.bool (fitM m f)) ∧ Below w.heap.size w w' := by
  obtain ⟨c0, c1, c34, c67, c68, c69, c70, c71, c72⟩ := rcells_at a m hs hb
  have HBF := Lib.hid (below_alloc (Below.refl w.heap.size w) (.cells (rcells a m).toArray 44))
  have HM := Lib.hid hm
  unfold rmV
  obtain ⟨C, hC⟩ : ∃ C, (rcells a m).toArray = C := ⟨_, rfl⟩
  have HCC := Lib.hid (show (w.alloc (.cells C 44)).heap[w.heap.size]? = some (.cells C 44 (0, 0)) by simpa using heap_alloc_new w _)
  rw [hC] at c0 c1 c34 c67 c68 c69 c70 c71 c72 HBF ⊢
  obtain ⟨kind, loc, stop, heads, block, item, data, ents, nonce, of_, code⟩ := m
  simp only at c0 c1 c34 c67 c68 c69 c70 c71 c72 HM
  have HE := Lib.hid HM.out.ents
  have HEC := Lib.hid HM.out.ec
  simp only at HE HEC
  obtain ⟨n, hne⟩ : ∃ n, ents.length = n := ⟨_, rfl⟩
  have HN := Lib.hid hne.symm
  rw [hne] at c69 HE HEC
  unfold fitM
  simp only
  rw [hne, show decide (loc.length ≤ 64) = decide ((loc.length : Int) ≤ 64) from (leq_dec _ 64).symm, show decide (heads.length ≤ 2000) = decide ((heads.length : Int) ≤ 2000) from (leq_dec _ 2000).symm, show decide (data.length ≤ 2048) = decide ((data.length : Int) ≤ 2048) from (leq_dec _ 2048).symm, show decide (item.length ≤ 64) = decide ((item.length : Int) ≤ 64) from (leq_dec _ 64).symm]
  have z1 := strOfNums_size item
  have z2 := strOfNums_size data
  obtain ⟨sI, hsI⟩ : ∃ Z, strOfNums item = Z := ⟨_, rfl⟩
  obtain ⟨sD, hsD⟩ : ∃ Z, strOfNums data = Z := ⟨_, rfl⟩
  rw [hsI] at c67 z1
  rw [hsD] at c68 z2
  have HC69 := Lib.hid c69
  clear hm HM hne hC hs hb hsI hsD
  rcases ten hf with rfl | rfl | rfl | rfl | rfl | rfl | rfl | rfl | rfl | rfl
  case inr.inr.inr.inl =>
    clear hf
    by_cases h0 : 0 ≤ of_
    · have g0 : decide (0 ≤ of_) = true := decide_eq_true h0
      have e : decide (0 ≤ of_ ∧ of_ ≤ 255) = decide (of_ ≤ 255) := by simp [h0]
      simp only [e]
      clear h0 e
      go_enter Try.func26, Try.ntmps26
      go_wp2_with fail
      go_ret
      exact ⟨rfl, HBF.out⟩
    · have g0 : decide (0 ≤ of_) = false := decide_eq_false h0
      have e : decide (0 ≤ of_ ∧ of_ ≤ 255) = false := by simp [h0]
      simp only [e]
      clear h0 e
      go_enter Try.func26, Try.ntmps26
      go_wp2_with fail
      go_ret
      exact ⟨rfl, HBF.out⟩
  case inr.inr.inr.inr.inr.inr.inr.inl =>
    clear hf
    obtain ⟨A, hA⟩ : ∃ A, a.ea = A := ⟨_, rfl⟩
    obtain ⟨c, hc⟩ : ∃ c, a.ec = c := ⟨_, rfl⟩
    rw [hA, hc] at c69
    rw [hA, hc] at HC69
    rw [hA] at HE
    obtain ⟨xs, hxs⟩ : ∃ xs, ents = xs := ⟨_, rfl⟩
    rw [hxs] at HN HE ⊢
    clear c0 c1 c34 c67 c68 c70 c71 c72 z1 z2 hA hc hxs
    by_cases h16 : 16 < n
    · have b1 : decide ((16 : Int) < (n : Int)) = true := decide_eq_true (by omega)
      have e : (decide (n ≤ 16) && xs.all fitE) = false := by rw [decide_eq_false (by omega)]; rfl
      rw [e]
      clear h16 e
      go_enter Try.func26, Try.ntmps26
      go_wp2_with fail
      go_ret
      exact ⟨rfl, HBF.out⟩
    have b1 : decide ((16 : Int) < (n : Int)) = false := decide_eq_false (by omega)
    have H16 := Lib.hid (show n ≤ 16 by omega)
    have e : (decide (n ≤ 16) && xs.all fitE) = xs.all fitE := by rw [decide_eq_true (by omega)]; rfl
    rw [e]
    obtain ⟨AE, hae⟩ : ∃ b, xs.all fitE = b := ⟨_, rfl⟩
    rw [hae]
    have HAE := Lib.hid hae
    clear h16 e hae
    go_enter Try.func26, Try.ntmps26
    go_wp2_with fail
    go_loopw [62] (fun i wr => ∃ k : Int, 0 ≤ k ∧ k ≤ (n : Int) ∧ i = .int .i64 k ∧ Hid (Below w.heap.size w wr ∧ (xs.take k.toNat).all fitE = true)) (fun i _ => ((n : Int) - intOf i).toNat)
    case atStart => exact ⟨0, by omega, by omega, rfl, Lib.hid ⟨HBF.out, by simp⟩⟩
    case round =>
      obtain ⟨k, hk0, hkn, rfl, H⟩ := hrel
      by_cases hlt : k < (n : Int)
      · obtain ⟨hb, hall⟩ := H.out
        obtain ⟨ad, A2, c2, rfl, x0, x1, x2, x3, l2, C2⟩ := at_Er (Kd.C_below HE.out hb) k hk0 hlt
        have hlx : k < (xs.length : Int) := by have := HN.out; omega
        have HTK := Lib.hid (takeE hk0 hlx)
        have HMEM := Lib.hid (rdE_mem hk0 hlx)
        obtain ⟨⟨tx, cnt, idx, path⟩, hx⟩ : ∃ x, rdE xs k = x := ⟨_, rfl⟩
        rw [hx] at x0 x1 x2 x3 HTK HMEM
        simp only at x0 x1 x2 x3
        have zt := strOfNums_size tx
        obtain ⟨sT, hsT⟩ : ∃ Z, strOfNums tx = Z := ⟨_, rfl⟩
        rw [hsT] at x0 zt
        have wk : wrap64 (k + 1) = k + 1 := wrap64_id (by omega) (by have := H16.out; omega)
        have HBA := Lib.hid ((hb.alloc hb.size (.cells #[.string sT, .int .i64 cnt, .int .i64 idx, .slice A2 path.length c2] 77)).alloc (by have := hb.size; simp; omega) (.cells #[.int .i64 cnt, .int .i64 idx, .slice A2 path.length c2] 75))
        have HLT := Lib.hid hlt
        have HALL := Lib.hid hall
        clear hb hall hx l2 C2 H hlx hsT c69
        by_cases hfit : tx.length ≤ 700 ∧ 0 ≤ cnt ∧ cnt ≤ 65536 ∧ 0 ≤ idx ∧ idx ≤ 65536 ∧ path.length ≤ 16
        · have HF := Lib.hid (fitE_true (x := ⟨tx, cnt, idx, path⟩) hfit)
          have g0 : decide ((700 : Int) < (tx.length : Int)) = false := decide_eq_false (by omega)
          have g1 : decide (cnt < 0) = false := decide_eq_false (by omega)
          have g2 : decide (65536 < cnt) = false := decide_eq_false (by omega)
          have g3 : decide (idx < 0) = false := decide_eq_false (by omega)
          have g4 : decide (65536 < idx) = false := decide_eq_false (by omega)
          have g5 : decide ((16 : Int) < (path.length : Int)) = false := decide_eq_false (by omega)
          clear hfit
          go_wp2_with fail
          go_roundw
          case rel => exact ⟨k + 1, by omega, by have := HLT.out; omega, by rw [wk], Lib.hid ⟨HBA.out, by rw [HTK.out, List.all_append, HALL.out]; simpa using HF.out⟩⟩
          case measure => simp [intOf]; have := HLT.out; omega
        · have HF := Lib.hid (fitE_false (x := ⟨tx, cnt, idx, path⟩) hfit)
          have HE : Hid (xs.all fitE = false) := Lib.hid (by rw [List.all_eq_false]; exact ⟨_, HMEM.out, by rw [HF.out]; simp⟩)
          have hae : AE = false := HAE.out.symm.trans HE.out
          clear HAE
          subst hae
          have way : 700 < tx.length ∨ (¬ 700 < tx.length ∧ cnt < 0) ∨ (¬ 700 < tx.length ∧ ¬ cnt < 0 ∧ 65536 < cnt) ∨ (¬ 700 < tx.length ∧ ¬ cnt < 0 ∧ ¬ 65536 < cnt ∧ idx < 0) ∨ (¬ 700 < tx.length ∧ ¬ cnt < 0 ∧ ¬ 65536 < cnt ∧ ¬ idx < 0 ∧ 65536 < idx) ∨ (¬ 700 < tx.length ∧ ¬ cnt < 0 ∧ ¬ 65536 < cnt ∧ ¬ idx < 0 ∧ ¬ 65536 < idx ∧ 16 < path.length) := by omega
          clear hfit
          rcases way with d0 | ⟨d0, d1⟩ | ⟨d0, d1, d2⟩ | ⟨d0, d1, d2, d3⟩ | ⟨d0, d1, d2, d3, d4⟩ | ⟨d0, d1, d2, d3, d4, d5⟩
          · have g0 : decide ((700 : Int) < (tx.length : Int)) = true := decide_eq_true (by omega)
            clear d0
            go_wp2_with fail
            go_ret
            exact ⟨rfl, HBA.out⟩
          · have g0 : decide ((700 : Int) < (tx.length : Int)) = false := decide_eq_false (by omega)
            have g1 : decide (cnt < 0) = true := decide_eq_true d1
            clear d0 d1
            go_wp2_with fail
            go_ret
            exact ⟨rfl, HBA.out⟩
          · have g0 : decide ((700 : Int) < (tx.length : Int)) = false := decide_eq_false (by omega)
            have g1 : decide (cnt < 0) = false := decide_eq_false d1
            have g2 : decide (65536 < cnt) = true := decide_eq_true d2
            clear d0 d1 d2
            go_wp2_with fail
            go_ret
            exact ⟨rfl, HBA.out⟩
          · have g0 : decide ((700 : Int) < (tx.length : Int)) = false := decide_eq_false (by omega)
            have g1 : decide (cnt < 0) = false := decide_eq_false d1
            have g2 : decide (65536 < cnt) = false := decide_eq_false d2
            have g3 : decide (idx < 0) = true := decide_eq_true d3
            clear d0 d1 d2 d3
            go_wp2_with fail
            go_ret
            exact ⟨rfl, HBA.out⟩
          · have g0 : decide ((700 : Int) < (tx.length : Int)) = false := decide_eq_false (by omega)
            have g1 : decide (cnt < 0) = false := decide_eq_false d1
            have g2 : decide (65536 < cnt) = false := decide_eq_false d2
            have g3 : decide (idx < 0) = false := decide_eq_false d3
            have g4 : decide (65536 < idx) = true := decide_eq_true d4
            clear d0 d1 d2 d3 d4
            go_wp2_with fail
            go_ret
            exact ⟨rfl, HBA.out⟩
          · have g0 : decide ((700 : Int) < (tx.length : Int)) = false := decide_eq_false (by omega)
            have g1 : decide (cnt < 0) = false := decide_eq_false d1
            have g2 : decide (65536 < cnt) = false := decide_eq_false d2
            have g3 : decide (idx < 0) = false := decide_eq_false d3
            have g4 : decide (65536 < idx) = false := decide_eq_false d4
            have g5 : decide ((16 : Int) < (path.length : Int)) = true := decide_eq_true (by omega)
            clear d0 d1 d2 d3 d4 d5
            go_wp2_with fail
            go_ret
            exact ⟨rfl, HBA.out⟩
      · obtain ⟨hb, hall⟩ := H.out
        have hkx : k.toNat = xs.length := by have := HN.out; omega
        rw [hkx, List.take_length] at hall
        have hae : AE = true := HAE.out.symm.trans hall
        clear HAE
        subst hae
        have HB := Lib.hid hb
        clear hb hall hkx H
        go_wp2_with fail
        go_ret
        exact ⟨rfl, HB.out⟩
  case inr.inr.inr.inr.inr.inr.inr.inr.inr =>
    clear hf
    by_cases h0 : 0 ≤ code
    · have g0 : decide (0 ≤ code) = true := decide_eq_true h0
      have e : decide (0 ≤ code ∧ code ≤ 255) = decide (code ≤ 255) := by simp [h0]
      simp only [e]
      clear h0 e
      go_enter Try.func26, Try.ntmps26
      go_wp2_with fail
      go_ret
      exact ⟨rfl, HBF.out⟩
    · have g0 : decide (0 ≤ code) = false := decide_eq_false h0
      have e : decide (0 ≤ code ∧ code ≤ 255) = false := by simp [h0]
      simp only [e]
      clear h0 e
      go_enter Try.func26, Try.ntmps26
      go_wp2_with fail
      go_ret
      exact ⟨rfl, HBF.out⟩
  all_goals
    clear hf
    go_enter Try.func26, Try.ntmps26
    go_wp2_with fail
    go_ret
    refine ⟨?_, HBF.out⟩
    rfl
end Go.Proofs.Ytfcmdhimlfoofaa.Hand


/- The law's lists of hashes, branches and entries, in the document's form: walked (refs, Ref of chapters 09 and 15). -/
namespace Go.Proofs.Ytfcmdhimlfoofaa.Hand
open Go Go.RowKit Go.Proofs.Ytfcmdhimlfoofaa.Plain Go.Proofs.Ytfcmdhimlfoofaa.PAll Go.Proofs.YtfcmdhimlfoofaaW.PrintWords Go.Proofs.YtfcmdhimlfoofaaW.PrintLast Go.Proofs.YtfcmdhimlfoofaaW.PrintMore
set_option linter.unusedVariables false
set_option linter.unusedSimpArgs false
set_option maxRecDepth 100000
attribute [local go_sem ↓] Go.wp_at_zero Go.wp_at_succ
theorem run_load_i64 (w : World) (a : Addr) (v : Value) (h : w.cell? a = some v) : (loadVar 3 a).run Try.prog w = .ok v w := by
  go_simp
theorem run_load_hs (w : World) (a : Addr) (v : Value) (h : w.cell? a = some v) : (loadVar 26 a).run Try.prog w = .ok v w := by
  go_simp
theorem run_load_bs (w : World) (a : Addr) (v : Value) (h : w.cell? a = some v) : (loadVar 23 a).run Try.prog w = .ok v w := by
  go_simp
attribute [-go_sem] loadVar storeVar Instr.buildSlice
/-- Hashes. -/
def Hs (xs : List (List Int)) : Prop := ∀ p ∈ xs, p.length = 32 ∧ ∀ x ∈ p, 0 ≤ x ∧ x < 256
theorem range_below {w u : World} {b o : Nat} {cs : List Value} (h : Below w.heap.size w u) (hb : b < w.heap.size) (hr : w.rangeAt b o cs) : u.rangeAt b o cs := fun j v hj => by
  rw [h.cell (p := ⟨b, o + j, none⟩) hb]
  exact hr j v hj
theorem info32c : (Try.prog.info? 27).map (fun i => (i.zero, i.size, i.bytes)) = some (some (.agg (nums .u8 (List.replicate 32 0)).toArray), 32, 32) := by kernel_rfl
theorem run_hash1r (p : List Int) (h : p.length = 32) (W : World) : (Instr.buildSlice 40 1 #[(0, .agg (nums .u8 p).toArray)]).run Try.prog W = .ok (.slice (some ⟨W.heap.size, 0, none⟩) 1 1) (W.alloc (.cells (nums .u8 p).toArray 27)) := by
  obtain ⟨x0, x1, x2, x3, x4, x5, x6, x7, x8, x9, x10, x11, x12, x13, x14, x15, x16, x17, x18, x19, x20, x21, x22, x23, x24, x25, x26, x27, x28, x29, x30, x31, rfl⟩ := list32 p h
  kernel_rfl
theorem take_hash {xs : List (List Int)} {k : Nat} (h : k < xs.length) : xs.take (k + 1) = xs.take k ++ [rdH xs k] := by
  rw [List.take_succ_eq_append_getElem h, rdH_eq h]
set_option maxHeartbeats 2000000 in
theorem refs9_calls (A : Option Addr) (n c : Nat) (xs : List (List Int)) (w : World) (hn : n = xs.length) (hr : Kd.C kH w A n xs) (hc : n ≤ c) (hl : n ≤ 100000) (hH : Hs xs) :
    Calls Try.prog 68 #[.slice A n c] w fun e w' => ∃ v, e = .returned v ∧ Kd.R kH 27 w' w.heap.size (fun _ => True) v xs ∧ Below w.heap.size w w' := by
  have HZ := (zero_of_info infoHash).1
  obtain ⟨Z, hZ⟩ : ∃ C, (nums .u8 (List.replicate 32 0)).toArray = C := ⟨_, rfl⟩
  rw [hZ] at HZ
  have hZ32 : Z.size = 32 := by rw [← hZ]; rfl
  have HR := Lib.hid hr
  have HN := Lib.hid (And.intro hn (And.intro hH hZ32))
  have HU := Lib.hid Try.underlying28
  clear hr hn hH hZ hZ32
  go_enter Try.func68, Try.ntmps68
  go_wp2_with fail
  go_loopw [3, 8] (fun v i wr => ∃ k : Nat, k ≤ n ∧ i = .int .i64 (k : Int) ∧ Hid (Kd.R kH 27 wr w.heap.size (fun _ => True) v (xs.take k) ∧ Below w.heap.size w wr)) (fun _ i _ => (n + 1 - (intOf i).toNat))
  case atStart => exact ⟨0, Nat.zero_le _, rfl, Lib.hid ⟨Kd.R_nil _ _ _ _ _, Below.refl _ _⟩⟩
  case round =>
    obtain ⟨k, hk, rfl, H⟩ := hrel
    obtain ⟨hR, hB⟩ := H.out
    by_cases hlt : k < n
    · have hklt : k < xs.length := by rw [← HN.out.1]; exact hlt
      obtain ⟨b, o, rfl, hbl, hrg⟩ := C_hash (by rw [← HN.out.1]; exact HR.out) (by omega)
      obtain ⟨hr0, hs0⟩ := hrg k hklt
      have hr1 := range_below hB hbl hr0
      have hg : decide ((k : Int) < (n : Int)) = true := decide_eq_true (by omega)
      have hg2 : (k : Int) < (n : Int) := by omega
      have hbs := fun u => run_hash1r (rdH xs k) hs0 u
      have hPl : (nums .u8 (rdH xs k)).length = 32 := by rw [nums_len]; exact hs0
      have hone := nums_one .u8 (rdH xs k)
      have hcm := fun (u : World) => kH_M (w := u) (base := w.heap.size) (ok := fun _ => False) hs0
      obtain ⟨P, hP⟩ : ∃ P, nums .u8 (rdH xs k) = P := ⟨_, rfl⟩
      rw [hP] at hbs hPl hone hcm hr1
      have HF := Lib.hid (show (Try.prog.info? 28).map (·.size) = some P.length ∧ (Try.prog.info? 28).map (·.size) = some P.toArray.size ∧ Z.size = P.toArray.size ∧ P.toArray.all (·.oneCell') = true from
        ⟨by rw [hPl]; exact (zero_of_info infoHash).2, by rw [List.size_toArray, hPl]; exact (zero_of_info infoHash).2, HN.out.2.2.trans (by rw [List.size_toArray, hPl]), all_oneCell_toArray hone⟩)
      have HR1 := Lib.hid hr1
      have HRR := Lib.hid (Kd.R_alloc hR (.cells P.toArray 28))
      have HBB := Lib.hid (below_alloc hB (.cells P.toArray 28))
      have HNK := Lib.hid (heap_alloc_new wr (.cells P.toArray 28))
      have HCM := Lib.hid hcm
      have HTL := Lib.hid (show ((xs.take k).length + 1) * 32 ≤ 140737488355328 by rw [List.length_take]; omega)
      have HTK := Lib.hid (take_hash hklt)
      clear hR hB H hrg hr0 hs0 hr1 hPl hone hcm hP hklt
      go_wp2_with (first
        | ((with_reducible show wpList _ _ _ (Oper.mk _ (Op.load _ (.tmp 10)) _ _ _ _ :: _) _ _); (go_loud (refine wpList_load_mid rfl 28 (.tmp 10) rfl b (o + k * 32) rfl P _ HR1.out HU.out rfl HF.out.1 ?_)))
        | ((with_reducible show wpList _ _ _ (Oper.mk _ (Op.load _ (.tmp 5)) _ _ _ _ :: _) _ _); (go_loud (refine wpList_load_row rfl 28 (.tmp 5) rfl wr.heap.size rfl 28 P.toArray (0, 0) _ HNK.out HU.out rfl HF.out.2.1 ?_)))
        | ((with_reducible show wpList _ _ _ (Oper.mk _ (Op.store _ _ _) _ _ _ _ :: _) _ _); (go_loud (refine wpl_store_new rfl 28 (.tmp 5) (.tmp 11) rfl Z P.toArray rfl rfl HF.out.2.1 HF.out.2.2.1 HF.out.2.2.2 ?_)))
        | ((with_reducible refine gate_builtin (b := .append) (xs := #[.tmp 12, .tmp 14]) rfl ?_); at_builtin; refine Kd.R_append kH (w0 := w) w.heap.size rfl (.tmp 12) (.tmp 14) 40 27 (.agg (nums .u8 (List.replicate 32 0)).toArray) 32 rfl Try.underlying40 info32c rfl (by decide) (by decide) _ (xs.take k) (rdH xs k) P (fun _ => True) (fun _ => False) rfl (by first | (go_simp; done) | (go_simp; rfl)) (HCM.out _) (fun _ h => h.elim) (fun _ _ => trivial) HRR.out HBB.out HBB.out.size HTL.out ?_; intro v4 w4 ho hb hg hat; have HR4 := Lib.hid ho; have HB4 := Lib.hid hb; clear ho hb hg hat))
      go_roundw
      case rel => exact ⟨k + 1, by omega, by go_num, Lib.hid ⟨by rw [HTK.out]; exact HR4.out, HB4.out⟩⟩
      case measure => simp only [intOf]; omega
    · have hg : decide ((k : Int) < (n : Int)) = false := decide_eq_false (by omega)
      have hx : xs.take k = xs := List.take_of_length_le (by rw [← HN.out.1]; omega)
      rw [hx] at hR
      have HRR := Lib.hid hR
      have HB := Lib.hid hB
      clear hR hB H hx
      go_wp2_with fail
      go_ret
      exact ⟨_, rfl, HRR.out, HB.out⟩

theorem infoR9 : (Try.prog.info? 75).map (fun i => (i.zero, i.size)) = some (some (.agg #[.int .i64 0, .int .i64 0, .slice none 0 0]), 3) := by kernel_rfl
theorem built_ref9 (cnt idx : Int) (A : Option Addr) (m c : Nat) : Try.prog.built 75 [(0, .int .i64 cnt), (1, .int .i64 idx), (2, .slice A m c)] = some #[.int .i64 cnt, .int .i64 idx, .slice A m c] := by kernel_rfl
theorem R_setRow {α : Type} {d : Kd α} {e : Nat} {w : World} {base g : Nat} {v : Value} {xs : List α} {cs : Array Value} (h : d.R e w base (fun _ => True) v xs) (hg : g < base) : d.R e (w.setRow g cs) base (fun _ => True) v xs :=
  Kd.R_mono (Kd.R_move (Kd.R_bound h) (fun k hk => setRow_other _ _ _ _ (by have := hk.2.1; omega))) (fun _ _ => trivial)
set_option maxHeartbeats 4000000 in
theorem lref9_calls (cnt idx : Int) (A : Option Addr) (m c : Nat) (xs : List (List Int)) (w : World) (hm : m = xs.length) (hr : Kd.C kH w A m xs) (hc : m ≤ c) (hl : m ≤ 100000) (hH : Hs xs) :
    Calls Try.prog 50 #[.agg #[.int .i64 cnt, .int .i64 idx, .slice A m c]] w fun e w' => ∃ A2 c2, e = .returned (.agg #[.int .i64 cnt, .int .i64 idx, .slice A2 m c2]) ∧ Kd.R kH 27 w' w.heap.size (fun _ => True) (.slice A2 m c2) xs ∧ Below w.heap.size w w' := by
  have hz := (zero_of_info infoR9).1
  have HRF := Lib.hid (fun (u : World) (hu : Below w.heap.size w u) => refs9_calls A m c xs u hm (Kd.C_below hr hu) hc hl hH)
  have HM := Lib.hid hm
  have hA0 := heap_alloc2_old w (.cells #[.int .i64 cnt, .int .i64 idx, .slice A m c] 65) (.cells #[.int .i64 0, .int .i64 0, .slice none 0 0] 75)
  have hZ0 := heap_alloc2_new w (.cells #[.int .i64 cnt, .int .i64 idx, .slice A m c] 65) (.cells #[.int .i64 0, .int .i64 0, .slice none 0 0] 75)
  have HB0 := Lib.hid (below_alloc (below_alloc (Below.refl w.heap.size w) (.cells #[.int .i64 cnt, .int .i64 idx, .slice A m c] 65)) (.cells #[.int .i64 0, .int .i64 0, .slice none 0 0] 75))
  obtain ⟨W0, hW0⟩ : ∃ W0, (w.alloc (.cells #[.int .i64 cnt, .int .i64 idx, .slice A m c] 65)).alloc (.cells #[.int .i64 0, .int .i64 0, .slice none 0 0] 75) = W0 := ⟨_, rfl⟩
  rw [hW0] at hA0 hZ0 HB0
  have HZ0 := Lib.hid hZ0
  have HA0 := Lib.hid hA0
  have HS := Lib.hid (show ∀ u : World, Below W0.heap.size W0 u → (loadVar 3 ⟨w.heap.size, 0, none⟩).run Try.prog u = .ok (.int .i64 cnt) u ∧ (loadVar 3 ⟨w.heap.size, 1, none⟩).run Try.prog u = .ok (.int .i64 idx) u ∧ (loadVar 26 ⟨w.heap.size, 2, none⟩).run Try.prog u = .ok (.slice A m c) u from fun u hu => by
    have hk := (hu.block _ (blk_lt hA0)).trans hA0
    exact ⟨run_load_i64 _ _ _ ((blk_cell hk 0).trans rfl), run_load_i64 _ _ _ ((blk_cell hk 1).trans rfl), run_load_hs _ _ _ ((blk_cell hk 2).trans rfl)⟩)
  have HW0 := Lib.hid hW0
  have HU := Lib.hid (And.intro Try.underlying75 (zero_of_info infoR9).2)
  clear hA0 hZ0 hW0 hm hr hH
  go_enter Try.func50, Try.ntmps50
  go_wp2_with fail
  rw [HW0.out]
  have HB1 := Lib.hid (below_drew (Below.refl W0.heap.size W0))
  have hHeld := HS.out _ HB1.out
  refine wp_region_held (S := fun u => (loadVar 3 ⟨w.heap.size, 0, none⟩).run Try.prog u = .ok (.int .i64 cnt) u ∧ (loadVar 3 ⟨w.heap.size, 1, none⟩).run Try.prog u = .ok (.int .i64 idx) u ∧ (loadVar 26 ⟨w.heap.size, 2, none⟩).run Try.prog u = .ok (.slice A m c) u) (by kernel_rfl) ?_
  change wpAnyH _ _ _ _ _ _ _ _ (World.drew _)
  refine wpAnyH_take (i := 0) (oi := ({ dst := some 3, op := Op.fieldAddr 65 (Operand.tmp 1) 0, type := 0, pos := "law.go:30", after := #[], guard := none } : Oper)) (v := .pointer (some ⟨w.heap.size, 0, none⟩)) rfl (by kernel_rfl) (by kernel_rfl) (by kernel_rfl) (fun _ _ _ h => h) (Or.inl ⟨by rfl, fun w hSw => by go_simp⟩) hHeld ?_
  simp only [Act.put, List.setIfInBounds_toArray, List.set_cons_zero, List.set_cons_succ]
  refine wpAnyH_take (i := 1) (oi := ({ dst := some 4, op := Op.load 3 (Operand.tmp 3), type := 3, pos := "law.go:30", after := #[{ on := 0, ground := Ground.data }], guard := none } : Oper)) (v := .int .i64 cnt) rfl (by kernel_rfl) (by kernel_rfl) (by kernel_rfl) (fun _ _ _ h => h) (Or.inl ⟨by rfl, fun w hSw => by obtain ⟨z0, z1, z2⟩ := hSw; go_simp⟩) hHeld ?_
  simp only [Act.put, List.setIfInBounds_toArray, List.set_cons_zero, List.set_cons_succ]
  refine wpAnyH_take (i := 2) (oi := ({ dst := some 5, op := Op.fieldAddr 65 (Operand.tmp 1) 1, type := 0, pos := "law.go:30", after := #[], guard := none } : Oper)) (v := .pointer (some ⟨w.heap.size, 1, none⟩)) rfl (by kernel_rfl) (by kernel_rfl) (by kernel_rfl) (fun _ _ _ h => h) (Or.inl ⟨by rfl, fun w hSw => by go_simp⟩) hHeld ?_
  simp only [Act.put, List.setIfInBounds_toArray, List.set_cons_zero, List.set_cons_succ]
  refine wpAnyH_take (i := 3) (oi := ({ dst := some 6, op := Op.load 3 (Operand.tmp 5), type := 3, pos := "law.go:30", after := #[{ on := 2, ground := Ground.data }], guard := none } : Oper)) (v := .int .i64 idx) rfl (by kernel_rfl) (by kernel_rfl) (by kernel_rfl) (fun _ _ _ h => h) (Or.inl ⟨by rfl, fun w hSw => by obtain ⟨z0, z1, z2⟩ := hSw; go_simp⟩) hHeld ?_
  simp only [Act.put, List.setIfInBounds_toArray, List.set_cons_zero, List.set_cons_succ]
  refine wpAnyH_take (i := 4) (oi := ({ dst := some 7, op := Op.fieldAddr 65 (Operand.tmp 1) 2, type := 0, pos := "law.go:30", after := #[], guard := none } : Oper)) (v := .pointer (some ⟨w.heap.size, 2, none⟩)) rfl (by kernel_rfl) (by kernel_rfl) (by kernel_rfl) (fun _ _ _ h => h) (Or.inl ⟨by rfl, fun w hSw => by go_simp⟩) hHeld ?_
  simp only [Act.put, List.setIfInBounds_toArray, List.set_cons_zero, List.set_cons_succ]
  refine wpAnyH_take (i := 5) (oi := ({ dst := some 8, op := Op.load 26 (Operand.tmp 7), type := 26, pos := "law.go:30", after := #[{ on := 4, ground := Ground.data }], guard := none } : Oper)) (v := .slice A m c) rfl (by kernel_rfl) (by kernel_rfl) (by kernel_rfl) (fun _ _ _ h => h) (Or.inl ⟨by rfl, fun w hSw => by obtain ⟨z0, z1, z2⟩ := hSw; go_simp⟩) hHeld ?_
  simp only [Act.put, List.setIfInBounds_toArray, List.set_cons_zero, List.set_cons_succ]
  refine wpAnyH_ready (rs := [6]) (by kernel_rfl) (by simp) ?_
  refine AllReadyH.cons (o := ({ dst := some 9, op := Op.call { callee := Callee.value (Operand.func 68), args := #[Operand.tmp 8], argTypes := #[26] }, type := 40, pos := "law.go:30", after := #[{ on := 5, ground := Ground.data }], guard := none } : Oper)) rfl (fun K hK => ?_) AllReadyH.nil
  go_simp
  (with_reducible refine (HRF.out _ (below_drew HB0.out)).mono ?_)
  rintro e w3 ⟨v, rfl, hv, hb3⟩
  obtain ⟨A3, c3, rfl, hc3, hC3⟩ := Kd.R_reads hv
  rw [← HM.out] at hv hc3 ⊢
  have HV3 := Lib.hid (show Kd.R kH 27 (w3.setRow (w.heap.size + 1) #[.int .i64 cnt, .int .i64 idx, .slice A3 m c3]) w.heap.size (fun _ => True) (.slice A3 m c3) xs from Kd.R_lower (R_setRow hv (by have h8 := blk_lt HZ0.out; have h9 : W0.drew.heap.size = W0.heap.size := rfl; omega)) (by have h8 := blk_lt HZ0.out; have h9 : W0.drew.heap.size = W0.heap.size := rfl; omega))
  have HB3 := Lib.hid (HB1.out.trans (Below.mono hb3 HB1.out.size))
  clear hv hb3 hc3 hC3
  go_wp2_with fail
  refine hK.out _ _ (HS.out _ HB3.out) (fun hHeld => ?_)
  clear hK K
  try simp only [Act.put, List.setIfInBounds_toArray, List.set_cons_zero, List.set_cons_succ]
  have hbu := fun u => run_build (P := Try.prog) u 75 #[(0, .int .i64 cnt), (1, .int .i64 idx), (2, .slice A3 m c3)] _ (built_ref9 cnt idx A3 m c3)
  have HZ3 := Lib.hid ((HB3.out.block _ (blk_lt HZ0.out)).trans HZ0.out)
  have HS5 := Lib.hid (show (loadVar 3 ⟨w.heap.size, 0, none⟩).run Try.prog (w3.setRow (w.heap.size + 1) #[.int .i64 cnt, .int .i64 idx, .slice A3 m c3]) = .ok (.int .i64 cnt) _ ∧ (loadVar 3 ⟨w.heap.size, 1, none⟩).run Try.prog (w3.setRow (w.heap.size + 1) #[.int .i64 cnt, .int .i64 idx, .slice A3 m c3]) = .ok (.int .i64 idx) _ ∧ (loadVar 26 ⟨w.heap.size, 2, none⟩).run Try.prog (w3.setRow (w.heap.size + 1) #[.int .i64 cnt, .int .i64 idx, .slice A3 m c3]) = .ok (.slice A m c) _ from by
    have hk := (setRow_other w3 (w.heap.size + 1) w.heap.size #[.int .i64 cnt, .int .i64 idx, .slice A3 m c3] (by omega)).trans ((HB3.out.block _ (blk_lt HA0.out)).trans HA0.out)
    exact ⟨run_load_i64 _ _ _ ((blk_cell hk 0).trans rfl), run_load_i64 _ _ _ ((blk_cell hk 1).trans rfl), run_load_hs _ _ _ ((blk_cell hk 2).trans rfl)⟩)
  refine wpAnyH_take (i := 7) (oi := ({ dst := some 10, op := Op.build 75 #[(0, Operand.tmp 4), (1, Operand.tmp 6), (2, Operand.tmp 9)], type := 75, pos := "law.go:30", after := #[{ on := 1, ground := Ground.data }, { on := 3, ground := Ground.data }, { on := 6, ground := Ground.data }], guard := none } : Oper)) (v := .agg #[.int .i64 cnt, .int .i64 idx, .slice A3 m c3]) rfl (by kernel_rfl) (by kernel_rfl) (by kernel_rfl) (fun _ _ _ h => h) (Or.inl ⟨by rfl, fun w hSw => by go_simp⟩) hHeld ?_
  simp only [Act.put, List.setIfInBounds_toArray, List.set_cons_zero, List.set_cons_succ]
  refine wpAnyH_ready (rs := [8]) (by kernel_rfl) (by simp) ?_
  refine AllReadyH.cons (o := ({ dst := none, op := Op.store 75 (Operand.tmp 2) (Operand.tmp 10), type := 0, pos := "law.go:30", after := #[{ on := 7, ground := Ground.data }, { on := 6, ground := Ground.chain }, { on := 0, ground := Ground.phase }, { on := 1, ground := Ground.phase }, { on := 2, ground := Ground.phase }, { on := 3, ground := Ground.phase }, { on := 4, ground := Ground.phase }, { on := 5, ground := Ground.phase }, { on := 6, ground := Ground.phase }, { on := 7, ground := Ground.phase }], guard := none } : Oper)) rfl (fun K hK => ?_) AllReadyH.nil
  rw [if_pos (by rfl)]
  refine wp_store_row 75 (.tmp 2) (.tmp 10) rfl (w.heap.size + 1) #[.int .i64 cnt, .int .i64 idx, .slice A3 m c3] (by rfl) (by rfl) 75 #[.int .i64 0, .int .i64 0, .slice none 0 0] HZ3.out HU.out.2 rfl (by simp [Value.oneCell']) ?_
  refine hK.out _ _ (HS5.out) (fun hHeld => ?_)
  clear hK K
  try simp only [Act.put, List.setIfInBounds_toArray, List.set_cons_zero, List.set_cons_succ]
  refine wpAnyH_done (by kernel_rfl) ?_ _
  clear hbu hHeld
  go_wp2_with fail
  exact bodyPost_ret (results_cell_row rfl _ _ (w.heap.size + 1) 75 #[.int .i64 cnt, .int .i64 idx, .slice A3 m c3] (0, 0) _ rfl (setRow_heap _ _ _ _ _ _ HZ3.out) HU.out.1 rfl HU.out.2) rfl ⟨A3, c3, rfl, HV3.out, below_setRow (HB0.out.trans (Below.mono HB3.out HB0.out.size)) (by omega) _⟩
theorem infoE15 : (Try.prog.info? 77).map (fun i => (i.zero, i.size)) = some (some (.agg #[.string ⟨#[]⟩, .int .i64 0, .int .i64 0, .slice none 0 0]), 4) := by kernel_rfl
theorem built_e15 (s : ByteArray) (cnt idx : Int) (A : Option Addr) (m c : Nat) : Try.prog.built 77 [(0, .string s), (1, .agg #[.int .i64 cnt, .int .i64 idx, .slice A m c])] = some #[.string s, .int .i64 cnt, .int .i64 idx, .slice A m c] := by kernel_rfl
theorem infoB9 : (Try.prog.info? 65).map (·.size) = some 3 := by kernel_rfl
set_option maxHeartbeats 4000000 in
theorem rentry_calls (A1 : Option Addr) (c1 : Nat) (tx : List Int) (cnt idx : Int) (A : Option Addr) (m c : Nat) (xs : List (List Int)) (w : World) (hrt : Kd.C (Kd.int .u8) w A1 tx.length tx) (hm : m = xs.length) (hr : Kd.C kH w A m xs) (hc : m ≤ c) (hl : m ≤ 100000) (hH : Hs xs) :
    Calls Try.prog 29 #[.agg #[.slice A1 tx.length c1, .int .i64 cnt, .int .i64 idx, .slice A m c]] w fun e w' => ∃ A2 c2, e = .returned (.agg #[.string (strOfNums tx), .int .i64 cnt, .int .i64 idx, .slice A2 m c2]) ∧ Kd.R kH 27 w' w.heap.size (fun _ => True) (.slice A2 m c2) xs ∧ Below w.heap.size w w' := by
  have hz := (zero_of_info infoE15).1
  have hcv : ∀ u : World, Below w.heap.size w u → (convert 23 9 (.slice A1 tx.length c1)).run Try.prog u = .ok (.string (strOfNums tx)) u := fun u hu =>
    Kd.C_string (P := Try.prog) (src := 23) (dst := 9) (c := c1) Try.underlying23 Try.underlying5 Try.underlying9 (Kd.C_below hrt hu)
  obtain ⟨n1, hn1⟩ : ∃ n, tx.length = n := ⟨_, rfl⟩
  obtain ⟨sT, hsT⟩ : ∃ s, strOfNums tx = s := ⟨_, rfl⟩
  rw [hn1, hsT] at hcv
  rw [hn1, hsT]
  have HRF := Lib.hid (fun (u : World) (hu : Below w.heap.size w u) => lref9_calls cnt idx A m c xs u hm (Kd.C_below hr hu) hc hl hH)
  have hA0 := heap_alloc2_old w (.cells #[.slice A1 n1 c1, .int .i64 cnt, .int .i64 idx, .slice A m c] 67) (.cells #[.string ⟨#[]⟩, .int .i64 0, .int .i64 0, .slice none 0 0] 77)
  have hZ0 := heap_alloc2_new w (.cells #[.slice A1 n1 c1, .int .i64 cnt, .int .i64 idx, .slice A m c] 67) (.cells #[.string ⟨#[]⟩, .int .i64 0, .int .i64 0, .slice none 0 0] 77)
  have HB0 := Lib.hid (below_alloc (below_alloc (Below.refl w.heap.size w) (.cells #[.slice A1 n1 c1, .int .i64 cnt, .int .i64 idx, .slice A m c] 67)) (.cells #[.string ⟨#[]⟩, .int .i64 0, .int .i64 0, .slice none 0 0] 77))
  obtain ⟨W0, hW0⟩ : ∃ W0, (w.alloc (.cells #[.slice A1 n1 c1, .int .i64 cnt, .int .i64 idx, .slice A m c] 67)).alloc (.cells #[.string ⟨#[]⟩, .int .i64 0, .int .i64 0, .slice none 0 0] 77) = W0 := ⟨_, rfl⟩
  rw [hW0] at hA0 hZ0 HB0
  have HZ0 := Lib.hid hZ0
  have HA0 := Lib.hid hA0
  have HS := Lib.hid (show ∀ u : World, u.heap[w.heap.size]? = some (.cells #[.slice A1 n1 c1, .int .i64 cnt, .int .i64 idx, .slice A m c] 67 (0, 0)) → Below w.heap.size w u → (loadVar 23 ⟨w.heap.size, 0, none⟩).run Try.prog u = .ok (.slice A1 n1 c1) u ∧ (convert 23 9 (.slice A1 n1 c1)).run Try.prog u = .ok (.string sT) u ∧ (loadVar 65 ⟨w.heap.size, 1, none⟩).run Try.prog u = .ok (.agg #[.int .i64 cnt, .int .i64 idx, .slice A m c]) u from fun u hk hu => by
    refine ⟨run_load_bs _ _ _ ((blk_cell hk 0).trans rfl), hcv u hu, ?_⟩
    have hrg := range_of_block (pre := [.slice A1 n1 c1]) (mid := [.int .i64 cnt, .int .i64 idx, .slice A m c]) (post := []) hk rfl
    exact run_loadVar_mid u w.heap.size 1 65 _ _ hrg Try.underlying65 rfl infoB9)
  have HW0 := Lib.hid hW0
  have HU := Lib.hid (And.intro Try.underlying77 (zero_of_info infoE15).2)
  clear hA0 hZ0 hW0 hm hr hH hcv hrt hn1 hsT
  go_enter Try.func29, Try.ntmps29
  go_wp2_with fail
  rw [HW0.out]
  have HB1 := Lib.hid (below_drew (Below.refl W0.heap.size W0))
  have hHeld := HS.out W0.drew HA0.out (below_drew HB0.out)
  refine wp_region_held (S := fun u => (loadVar 23 ⟨w.heap.size, 0, none⟩).run Try.prog u = .ok (.slice A1 n1 c1) u ∧ (convert 23 9 (.slice A1 n1 c1)).run Try.prog u = .ok (.string sT) u ∧ (loadVar 65 ⟨w.heap.size, 1, none⟩).run Try.prog u = .ok (.agg #[.int .i64 cnt, .int .i64 idx, .slice A m c]) u) (by kernel_rfl) ?_
  change wpAnyH _ _ _ _ _ _ _ _ (World.drew _)
  refine wpAnyH_take (i := 0) (oi := ({ dst := some 3, op := Op.fieldAddr 67 (Operand.tmp 1) 0, type := 0, pos := "law.go:132", after := #[], guard := none } : Oper)) (v := .pointer (some ⟨w.heap.size, 0, none⟩)) rfl (by kernel_rfl) (by kernel_rfl) (by kernel_rfl) (fun _ _ _ h => h) (Or.inl ⟨by rfl, fun w hSw => by go_simp⟩) hHeld ?_
  simp only [Act.put, List.setIfInBounds_toArray, List.set_cons_zero, List.set_cons_succ]
  refine wpAnyH_take (i := 1) (oi := ({ dst := some 4, op := Op.load 23 (Operand.tmp 3), type := 23, pos := "law.go:132", after := #[{ on := 0, ground := Ground.data }], guard := none } : Oper)) (v := .slice A1 n1 c1) rfl (by kernel_rfl) (by kernel_rfl) (by kernel_rfl) (fun _ _ _ h => h) (Or.inl ⟨by rfl, fun w hSw => by obtain ⟨z0, z1, z2⟩ := hSw; go_simp⟩) hHeld ?_
  simp only [Act.put, List.setIfInBounds_toArray, List.set_cons_zero, List.set_cons_succ]
  refine wpAnyH_take (i := 2) (oi := ({ dst := some 5, op := Op.convert 23 9 (Operand.tmp 4), type := 9, pos := "law.go:132", after := #[{ on := 1, ground := Ground.data }], guard := none } : Oper)) (v := .string sT) rfl (by kernel_rfl) (by kernel_rfl) (by kernel_rfl) (fun _ _ _ h => h) (Or.inl ⟨by rfl, fun w hSw => by obtain ⟨z0, z1, z2⟩ := hSw; go_simp⟩) hHeld ?_
  simp only [Act.put, List.setIfInBounds_toArray, List.set_cons_zero, List.set_cons_succ]
  refine wpAnyH_take (i := 3) (oi := ({ dst := some 6, op := Op.fieldAddr 67 (Operand.tmp 1) 1, type := 0, pos := "law.go:132", after := #[], guard := none } : Oper)) (v := .pointer (some ⟨w.heap.size, 1, none⟩)) rfl (by kernel_rfl) (by kernel_rfl) (by kernel_rfl) (fun _ _ _ h => h) (Or.inl ⟨by rfl, fun w hSw => by go_simp⟩) hHeld ?_
  simp only [Act.put, List.setIfInBounds_toArray, List.set_cons_zero, List.set_cons_succ]
  refine wpAnyH_take (i := 4) (oi := ({ dst := some 7, op := Op.load 65 (Operand.tmp 6), type := 65, pos := "law.go:132", after := #[{ on := 3, ground := Ground.data }], guard := none } : Oper)) (v := .agg #[.int .i64 cnt, .int .i64 idx, .slice A m c]) rfl (by kernel_rfl) (by kernel_rfl) (by kernel_rfl) (fun _ _ _ h => h) (Or.inl ⟨by rfl, fun w hSw => by obtain ⟨z0, z1, z2⟩ := hSw; go_simp⟩) hHeld ?_
  simp only [Act.put, List.setIfInBounds_toArray, List.set_cons_zero, List.set_cons_succ]
  refine wpAnyH_ready (rs := [5]) (by kernel_rfl) (by simp) ?_
  refine AllReadyH.cons (o := ({ dst := some 8, op := Op.call { callee := Callee.value (Operand.func 50), args := #[Operand.tmp 7], argTypes := #[65] }, type := 75, pos := "law.go:132", after := #[{ on := 4, ground := Ground.data }], guard := none } : Oper)) rfl (fun K hK => ?_) AllReadyH.nil
  go_simp
  (with_reducible refine (HRF.out _ (below_drew HB0.out)).mono ?_)
  rintro e w3 ⟨A3, c3, rfl, hv, hb3⟩
  have HV3 := Lib.hid (show Kd.R kH 27 (w3.setRow (w.heap.size + 1) #[.string sT, .int .i64 cnt, .int .i64 idx, .slice A3 m c3]) w.heap.size (fun _ => True) (.slice A3 m c3) xs from Kd.R_lower (R_setRow hv (by have h8 := blk_lt HZ0.out; have h9 : W0.drew.heap.size = W0.heap.size := rfl; omega)) (by have h8 := blk_lt HZ0.out; have h9 : W0.drew.heap.size = W0.heap.size := rfl; omega))
  have HB3 := Lib.hid (HB1.out.trans (Below.mono hb3 HB1.out.size))
  clear hv hb3
  go_wp2_with fail
  refine hK.out _ _ (HS.out _ ((HB3.out.block _ (blk_lt HA0.out)).trans HA0.out) (HB0.out.trans (Below.mono HB3.out HB0.out.size))) (fun hHeld => ?_)
  clear hK K
  try simp only [Act.put, List.setIfInBounds_toArray, List.set_cons_zero, List.set_cons_succ]
  have hbu := fun u => run_build (P := Try.prog) u 77 #[(0, .string sT), (1, .agg #[.int .i64 cnt, .int .i64 idx, .slice A3 m c3])] _ (built_e15 sT cnt idx A3 m c3)
  have HZ3 := Lib.hid ((HB3.out.block _ (blk_lt HZ0.out)).trans HZ0.out)
  have HBF := Lib.hid (below_setRow (HB0.out.trans (Below.mono HB3.out HB0.out.size)) (show w.heap.size ≤ w.heap.size + 1 by omega) #[.string sT, .int .i64 cnt, .int .i64 idx, .slice A3 m c3])
  have HS5 := HS.out (w3.setRow (w.heap.size + 1) #[.string sT, .int .i64 cnt, .int .i64 idx, .slice A3 m c3]) ((setRow_other w3 (w.heap.size + 1) w.heap.size #[.string sT, .int .i64 cnt, .int .i64 idx, .slice A3 m c3] (by omega)).trans ((HB3.out.block _ (blk_lt HA0.out)).trans HA0.out)) HBF.out
  refine wpAnyH_take (i := 6) (oi := ({ dst := some 9, op := Op.build 77 #[(0, Operand.tmp 5), (1, Operand.tmp 8)], type := 77, pos := "law.go:132", after := #[{ on := 2, ground := Ground.data }, { on := 5, ground := Ground.data }], guard := none } : Oper)) (v := .agg #[.string sT, .int .i64 cnt, .int .i64 idx, .slice A3 m c3]) rfl (by kernel_rfl) (by kernel_rfl) (by kernel_rfl) (fun _ _ _ h => h) (Or.inl ⟨by rfl, fun w hSw => by go_simp⟩) hHeld ?_
  simp only [Act.put, List.setIfInBounds_toArray, List.set_cons_zero, List.set_cons_succ]
  refine wpAnyH_ready (rs := [7]) (by kernel_rfl) (by simp) ?_
  refine AllReadyH.cons (o := ({ dst := none, op := Op.store 77 (Operand.tmp 2) (Operand.tmp 9), type := 0, pos := "law.go:132", after := #[{ on := 6, ground := Ground.data }, { on := 5, ground := Ground.chain }, { on := 0, ground := Ground.phase }, { on := 1, ground := Ground.phase }, { on := 2, ground := Ground.phase }, { on := 3, ground := Ground.phase }, { on := 4, ground := Ground.phase }, { on := 5, ground := Ground.phase }, { on := 6, ground := Ground.phase }], guard := none } : Oper)) rfl (fun K hK => ?_) AllReadyH.nil
  rw [if_pos (by rfl)]
  refine wp_store_row 77 (.tmp 2) (.tmp 9) rfl (w.heap.size + 1) #[.string sT, .int .i64 cnt, .int .i64 idx, .slice A3 m c3] (by rfl) (by rfl) 77 #[.string ⟨#[]⟩, .int .i64 0, .int .i64 0, .slice none 0 0] HZ3.out HU.out.2 rfl (by simp [Value.oneCell']) ?_
  refine hK.out _ _ (HS5) (fun hHeld => ?_)
  clear hK K
  try simp only [Act.put, List.setIfInBounds_toArray, List.set_cons_zero, List.set_cons_succ]
  refine wpAnyH_done (by kernel_rfl) ?_ _
  clear hbu hHeld HS5
  go_wp2_with fail
  exact bodyPost_ret (results_cell_row rfl _ _ (w.heap.size + 1) 77 #[.string sT, .int .i64 cnt, .int .i64 idx, .slice A3 m c3] (0, 0) _ rfl (setRow_heap _ _ _ _ _ _ HZ3.out) HU.out.1 rfl HU.out.2) rfl ⟨A3, c3, rfl, HV3.out, HBF.out⟩
end Go.Proofs.Ytfcmdhimlfoofaa.Hand


/- May a message be gone through? Walked (the law's small). -/
namespace Go.Proofs.Ytfcmdhimlfoofaa.Hand
open Go Go.RowKit Go.Proofs.Ytfcmdhimlfoofaa.Plain Go.Proofs.Ytfcmdhimlfoofaa.PAll Go.Proofs.YtfcmdhimlfoofaaW.PrintWords Go.Proofs.YtfcmdhimlfoofaaW.PrintLast Go.Proofs.YtfcmdhimlfoofaaW.PrintMore
set_option linter.unusedVariables false
set_option linter.unusedSimpArgs false
set_option maxRecDepth 100000
attribute [local go_sem ↓] Go.wp_at_zero Go.wp_at_succ
def smE (x : ET) : Bool := decide (x.tx.length ≤ 900 ∧ x.path.length ≤ 20)
def smM (m : MT) : Bool := decide (m.loc.length ≤ 80 ∧ m.heads.length ≤ 40 ∧ m.item.length ≤ 200 ∧ m.data.length ≤ 3000 ∧ m.ents.length ≤ 20) && m.ents.all smE
theorem smE_false {x : ET} (h : ¬ (x.tx.length ≤ 900 ∧ x.path.length ≤ 20)) : smE x = false := decide_eq_false h
theorem smE_true {x : ET} (h : x.tx.length ≤ 900 ∧ x.path.length ≤ 20) : smE x = true := decide_eq_true h
theorem meas_sm {n k x : Int} (h : k < n) (e : x = k + 1) : (n - intOf (Value.int .i64 x)).toNat < (n - intOf (Value.int .i64 k)).toNat := by
  subst e
  show (n - (k + 1)).toNat < (n - k).toNat
  omega
set_option maxHeartbeats 4000000 in
theorem small_calls (a : MA) (m : MT) (w : World) (hm : MC w a m) (hwf : MWf m) : Calls Try.prog 12 #[mV a m] w fun e w' => e = .returned (.bool (smM m)) ∧ Below w.heap.size w w' := by
  obtain ⟨c0, c1, c34, c67, c68, c69, c70, c71, c72⟩ := mcells_at a m hwf.stop.1 hwf.block.1
  have HBF := Lib.hid (below_alloc (Below.refl w.heap.size w) (.cells (mcells a m).toArray 33))
  unfold mV
  obtain ⟨C, hC⟩ : ∃ C, (mcells a m).toArray = C := ⟨_, rfl⟩
  rw [hC] at c0 c1 c34 c67 c68 c69 c70 c71 c72 HBF ⊢
  have HR := Lib.hid hm.ents
  unfold smM
  obtain ⟨n0, hn0⟩ : ∃ n, m.loc.length = n := ⟨_, rfl⟩
  obtain ⟨n1, hn1⟩ : ∃ n, m.heads.length = n := ⟨_, rfl⟩
  obtain ⟨n2, hn2⟩ : ∃ n, m.item.length = n := ⟨_, rfl⟩
  obtain ⟨n3, hn3⟩ : ∃ n, m.data.length = n := ⟨_, rfl⟩
  obtain ⟨n, hn⟩ : ∃ n, m.ents.length = n := ⟨_, rfl⟩
  obtain ⟨xs, hxs⟩ : ∃ xs, m.ents = xs := ⟨_, rfl⟩
  obtain ⟨A, hA⟩ : ∃ A, a.ea = A := ⟨_, rfl⟩
  have HN := Lib.hid (show n = xs.length by rw [← hxs]; exact hn.symm)
  rw [hn0] at c1
  rw [hn1] at c34
  rw [hn2] at c67
  rw [hn3] at c68
  rw [hn, hA] at c69
  rw [hn, hA, hxs] at HR
  rw [hn0, hn1, hn2, hn3, hn, hxs]
  clear hm hwf hC hn0 hn1 hn2 hn3 hn hxs hA
  by_cases h0 : 80 < n0
  · have g0 : decide ((80 : Int) < (n0 : Int)) = true := decide_eq_true (by omega)
    rw [decide_eq_false (by omega), Bool.false_and]
    clear h0
    go_enter Try.func12, Try.ntmps12
    go_wp2_with fail
    go_ret
    exact ⟨rfl, HBF.out⟩
  have g0 : decide ((80 : Int) < (n0 : Int)) = false := decide_eq_false (by omega)
  by_cases h1 : 40 < n1
  · have g1 : decide ((40 : Int) < (n1 : Int)) = true := decide_eq_true (by omega)
    rw [decide_eq_false (by omega), Bool.false_and]
    clear h0 h1
    go_enter Try.func12, Try.ntmps12
    go_wp2_with fail
    go_ret
    exact ⟨rfl, HBF.out⟩
  have g1 : decide ((40 : Int) < (n1 : Int)) = false := decide_eq_false (by omega)
  by_cases h2 : 200 < n2
  · have g2 : decide ((200 : Int) < (n2 : Int)) = true := decide_eq_true (by omega)
    rw [decide_eq_false (by omega), Bool.false_and]
    clear h0 h1 h2
    go_enter Try.func12, Try.ntmps12
    go_wp2_with fail
    go_ret
    exact ⟨rfl, HBF.out⟩
  have g2 : decide ((200 : Int) < (n2 : Int)) = false := decide_eq_false (by omega)
  by_cases h3 : 3000 < n3
  · have g3 : decide ((3000 : Int) < (n3 : Int)) = true := decide_eq_true (by omega)
    rw [decide_eq_false (by omega), Bool.false_and]
    clear h0 h1 h2 h3
    go_enter Try.func12, Try.ntmps12
    go_wp2_with fail
    go_ret
    exact ⟨rfl, HBF.out⟩
  have g3 : decide ((3000 : Int) < (n3 : Int)) = false := decide_eq_false (by omega)
  by_cases h4 : 20 < n
  · have g4 : decide ((20 : Int) < (n : Int)) = true := decide_eq_true (by omega)
    rw [decide_eq_false (by omega), Bool.false_and]
    clear h0 h1 h2 h3 h4
    go_enter Try.func12, Try.ntmps12
    go_wp2_with fail
    go_ret
    exact ⟨rfl, HBF.out⟩
  have g4 : decide ((20 : Int) < (n : Int)) = false := decide_eq_false (by omega)
  rw [decide_eq_true (by omega), Bool.true_and]
  have H20 := Lib.hid (show n ≤ 20 by omega)
  obtain ⟨AE, hae⟩ : ∃ b, xs.all smE = b := ⟨_, rfl⟩
  rw [hae]
  have HAE := Lib.hid hae
  clear h0 h1 h2 h3 h4 hae
  go_enter Try.func12, Try.ntmps12
  go_wp2_with fail
  go_loopw [36] (fun i wr => ∃ k : Int, 0 ≤ k ∧ k ≤ (n : Int) ∧ i = .int .i64 k ∧ Hid (Below w.heap.size w wr ∧ (xs.take k.toNat).all smE = true)) (fun i _ => ((n : Int) - intOf i).toNat)
  case atStart => exact ⟨0, by omega, by omega, rfl, Lib.hid ⟨HBF.out, by simp⟩⟩
  case round =>
    obtain ⟨k, hk0, hkn, rfl, H⟩ := hrel
    by_cases hlt : k < (n : Int)
    · obtain ⟨hb, hall⟩ := H.out
      obtain ⟨ad, A1, cc1, A2, c2, rfl, x0, x1, x2, x3, l1, C1, l2, C2⟩ := at_E (Kd.C_below HR.out hb) k hk0 hlt
      have hlx : k < (xs.length : Int) := by have := HN.out; omega
      have HTK := Lib.hid (takeE hk0 hlx)
      have HMEM := Lib.hid (rdE_mem hk0 hlx)
      obtain ⟨⟨tx, cnt, idx, path⟩, hx⟩ : ∃ x, rdE xs k = x := ⟨_, rfl⟩
      rw [hx] at x0 x1 x2 x3 HTK HMEM
      simp only at x0 x1 x2 x3
      obtain ⟨nt, hnt⟩ : ∃ n, tx.length = n := ⟨_, rfl⟩
      obtain ⟨np, hnp⟩ : ∃ n, path.length = n := ⟨_, rfl⟩
      rw [hnt] at x0
      rw [hnp] at x3
      have wk : wrap64 (k + 1) = k + 1 := wrap64_id (by omega) (by have := H20.out; omega)
      have HBA := Lib.hid (hb.alloc hb.size (.cells #[.slice A1 nt cc1, .int .i64 cnt, .int .i64 idx, .slice A2 np c2] 67))
      have HLT := Lib.hid hlt
      have HALL := Lib.hid hall
      have HNT := Lib.hid (And.intro hnt hnp)
      clear hb hall hx l1 C1 l2 C2 H hlx hnt hnp
      by_cases h0 : 900 < nt
      · have g5 : decide ((900 : Int) < (nt : Int)) = true := decide_eq_true (by omega)
        have HE : Hid (xs.all smE = false) := Lib.hid (by rw [List.all_eq_false]; exact ⟨_, HMEM.out, by rw [smE_false (x := ⟨tx, cnt, idx, path⟩) (by simp only; have := HNT.out; omega)]; simp⟩)
        have hae : AE = false := HAE.out.symm.trans HE.out
        clear HAE h0
        subst hae
        go_wp2_with fail
        go_ret
        exact ⟨rfl, HBA.out⟩
      have g5 : decide ((900 : Int) < (nt : Int)) = false := decide_eq_false (by omega)
      by_cases h1 : 20 < np
      · have g6 : decide ((20 : Int) < (np : Int)) = true := decide_eq_true (by omega)
        have HE : Hid (xs.all smE = false) := Lib.hid (by rw [List.all_eq_false]; exact ⟨_, HMEM.out, by rw [smE_false (x := ⟨tx, cnt, idx, path⟩) (by simp only; have := HNT.out; omega)]; simp⟩)
        have hae : AE = false := HAE.out.symm.trans HE.out
        clear HAE h0 h1
        subst hae
        go_wp2_with fail
        go_ret
        exact ⟨rfl, HBA.out⟩
      have g6 : decide ((20 : Int) < (np : Int)) = false := decide_eq_false (by omega)
      have HF := Lib.hid (smE_true (x := ⟨tx, cnt, idx, path⟩) (by simp only; have := HNT.out; omega))
      clear h0 h1
      go_wp2_with fail
      go_roundw
      case rel => exact ⟨k + 1, by omega, by have := HLT.out; omega, by rw [wk], Lib.hid ⟨HBA.out, by rw [HTK.out, List.all_append, HALL.out]; simpa using HF.out⟩⟩
      case measure => exact meas_sm HLT.out wk
    · obtain ⟨hb, hall⟩ := H.out
      have hkx : k.toNat = xs.length := by have := HN.out; omega
      rw [hkx, List.take_length] at hall
      have hae : AE = true := HAE.out.symm.trans hall
      clear HAE
      subst hae
      have HB := Lib.hid hb
      clear hb hall hkx H
      go_wp2_with fail
      go_ret
      exact ⟨rfl, HB.out⟩
end Go.Proofs.Ytfcmdhimlfoofaa.Hand


/- The document's bytes of a list of hashes: walked. -/
namespace Go.Proofs.Ytfcmdhimlfoofaa.Hand
open Go Go.RowKit Go.Proofs.Ytfcmdhimlfoofaa.Plain Go.Proofs.Ytfcmdhimlfoofaa.PAll Go.Proofs.YtfcmdhimlfoofaaW.PrintWords Go.Proofs.YtfcmdhimlfoofaaW.PrintLast Go.Proofs.YtfcmdhimlfoofaaW.PrintMore
set_option linter.unusedVariables false
set_option linter.unusedSimpArgs false
set_option maxRecDepth 100000
attribute [local go_sem ↓] Go.wp_at_zero Go.wp_at_succ
theorem rvar_calls (n : Int) (h0 : 0 ≤ n) (h1 : n < 18446744073709551616) (W : World) : Calls Try.prog 46 #[.int .u64 n] W fun e w' => e = .returned (.string (strOfNums (varB n.toNat))) ∧ Below W.heap.size W w' := by
  have h := rvar_tells n.toNat (by omega) 20 (by omega)
  rw [Int.toNat_of_nonneg h0] at h
  exact mastheadref06_Var.calls 20 n _ W h
theorem rnum_calls (n a : Int) (h0 : 0 ≤ n) (h1 : n < 18446744073709551616) (W : World) : Calls Try.prog 49 #[.int .u64 n, .int .i64 a] W fun e w' => e = .returned (.string (strOfNums (digs (wid a) n.toNat))) ∧ Below W.heap.size W w' := by
  have h := rnum_tells n.toNat a (by omega) 20 (by omega)
  rw [Int.toNat_of_nonneg h0] at h
  exact mastheadref06_Num.calls 20 n a _ W h
theorem infoArrZ : (Try.prog.info? 27).map (fun i => (i.zero, i.size)) = some (some (.agg (nums .u8 z32m).toArray), 32) := by kernel_rfl
theorem meas_k {n k : Int} {x : Int} (h : k < n) (e : x = k + 1) (h0 : 0 ≤ k) : (n - intOf (Value.int .i64 x)).toNat < (n - intOf (Value.int .i64 k)).toNat := by
  subst e
  show (n - (k + 1)).toNat < (n - k).toNat
  omega
set_option maxHeartbeats 4000000 in
theorem rhashes_calls (A : Option Addr) (n c : Nat) (xs : List (List Int)) (w : World) (hn : n = xs.length) (hr : Kd.C kH w A n xs) (h32 : ∀ p ∈ xs, p.length = 32) (hl : n ≤ 100000) :
    Calls Try.prog 45 #[.slice A n c] w fun e w' => e = .returned (.string (strOfNums (hashesB xs))) ∧ Below w.heap.size w w' := by
  have HR := Lib.hid hr
  have HN := Lib.hid hn
  have H32 := Lib.hid h32
  have HL := Lib.hid hl
  have hu : IntKind.u64.wrap (n : Int) = (n : Int) := u64w_id (by omega) (by omega)
  have hz := (zero_of_info infoArrZ).1
  obtain ⟨Z, hZ⟩ : ∃ Z, (nums .u8 z32m).toArray = Z := ⟨_, rfl⟩
  rw [hZ] at hz
  have HZS := Lib.hid (show Z.size = 32 by rw [← hZ]; rfl)
  have HU := Lib.hid Try.underlying27
  clear hr hn h32 hl hZ
  go_enter Try.func45, Try.ntmps45
  go_wp2_with fail
  with_reducible refine (rvar_calls (n : Int) (by omega) (by have := HL.out; omega) _).mono ?_
  rintro e w1 ⟨rfl, hb⟩
  have HB1 := Lib.hid hb
  rw [Int.toNat_natCast]
  clear hb hu
  go_wp2_with fail
  go_loopw [3, 12] (fun v i wr => ∃ k : Int, 0 ≤ k ∧ k ≤ (n : Int) ∧ i = .int .i64 k ∧ ∃ s, v = .string s ∧ Hid (s = strOfNums (varB n ++ (xs.take k.toNat).flatten) ∧ Below w.heap.size w wr)) (fun _ i _ => ((n : Int) - intOf i).toNat)
  case atStart => exact ⟨0, by omega, by omega, rfl, _, rfl, Lib.hid ⟨by simp, HB1.out⟩⟩
  case round =>
    obtain ⟨k, hk0, hkn, rfl, s, rfl, H⟩ := hrel
    by_cases hlt : k < (n : Int)
    · obtain ⟨hs, hb⟩ := H.out
      have hcr := Kd.C_below HR.out hb
      rw [HN.out] at hcr
      obtain ⟨b, o, rfl, hbl, hat⟩ := C_hash hcr (by have := HN.out; omega)
      have hkx : k < (xs.length : Int) := by have := HN.out; omega
      have hlen := take32 H32.out k.toNat
      obtain ⟨hrg, hp32⟩ := hat k.toNat (by omega)
      have HTK := Lib.hid (takeH hk0 hkx)
      obtain ⟨p, hp⟩ : ∃ p, rdH xs k.toNat = p := ⟨_, rfl⟩
      rw [hp] at hrg hp32 HTK
      have HP := Lib.hid hp32
      obtain ⟨P, hP⟩ : ∃ P, nums .u8 p = P := ⟨_, rfl⟩
      have hPl : P.length = 32 := by rw [← hP]; simp [nums, hp32]
      have HPA := Lib.hid hP
      rw [hP] at hrg
      have HRG := Lib.hid hrg
      have HI := Lib.hid (show (Try.prog.info? 27).map (·.size) = some P.length by rw [hPl]; exact (zero_of_info infoArrZ).2)
      obtain ⟨PA, hPA⟩ : ∃ PA, P.toArray = PA := ⟨_, rfl⟩
      have hPS : PA.size = 32 := by rw [← hPA]; simpa using hPl
      have HI2 := Lib.hid (show (Try.prog.info? 27).map (·.size) = some PA.size by rw [hPS]; exact (zero_of_info infoArrZ).2)
      have HZS2 := Lib.hid (show Z.size = PA.size by rw [HZS.out, hPS])
      have HONE := Lib.hid (show PA.all (·.oneCell') = true by rw [← hPA, ← hP]; exact all_oneCell_toArray (nums_one _ _))
      have hPA2 : PA = (nums .u8 p).toArray := by rw [← hPA, hP]
      have hcv : (convert 23 9 (.slice (some ⟨wr.heap.size, 0, none⟩) 32 32)).run Try.prog (wr.alloc (.cells PA 27)) = .ok (.string (strOfNums p)) (wr.alloc (.cells PA 27)) := by
        have h1 := heap_alloc_new wr (.cells PA 27)
        rw [hPA2] at h1 ⊢
        have hC := C_of_block (pre := []) (post := []) (k := .u8) (ys := p) (o := 0) (w := wr.alloc (.cells (nums .u8 p).toArray 27)) (b := wr.heap.size) (t := 27) (fr := (0, 0)) (by simpa using h1) rfl (by omega)
        rw [hp32] at hC
        have h2 := Kd.C_string (P := Try.prog) (src := 23) (dst := 9) (c := 32) Try.underlying23 Try.underlying5 Try.underlying9 hC
        exact h2
      have hsz : s.size ≤ 9 + 32 * n := by
        rw [hs, strOfNums_size]
        have := varB_length n
        have := HN.out
        simp only [List.length_append]
        omega
      have hps : (strOfNums p).size = 32 := by rw [strOfNums_size, hp32]
      have HS := Lib.hid (show s ++ strOfNums p = strOfNums (varB n ++ (xs.take (k + 1).toNat).flatten) by rw [HTK.out, ← List.append_assoc, str_append, hs])
      obtain ⟨sp, hsp⟩ : ∃ x, strOfNums p = x := ⟨_, rfl⟩
      rw [hsp] at hcv hps HS
      have f1 : (9223372036854775807 < s.size + 32) = False := eq_false (by have := HL.out; omega)
      have f2 : (9223372036854775807 < s.size + sp.size) = False := eq_false (by have := HL.out; omega)
      have wk : wrap64 (k + 1) = k + 1 := wrap64_id (by omega) (by have := HL.out; omega)
      have HLT := Lib.hid hlt
      have HBA := Lib.hid (hb.alloc hb.size (.cells PA 27))
      clear hs hb hcr hbl hat hkx hlen hrg hp32 hp hP hPl hPS hPA2 hsz hsp H
      go_wp2_with (first
        | ((with_reducible show wpList _ _ _ (Oper.mk _ (Op.load 27 (.tmp 14)) _ _ _ _ :: _) _ _); (go_loud (refine wpList_load_mid rfl 27 (.tmp 14) rfl b (o + k.toNat * 32) rfl P _ HRG.out HU.out rfl HI.out ?_)); rw [hPA])
        | ((with_reducible show wpList _ _ _ (Oper.mk _ (Op.store _ (.tmp 5) _) _ _ _ _ :: _) _ _); (go_loud (refine wpl_store_new rfl 27 (.tmp 5) (.tmp 15) rfl Z PA rfl rfl HI2.out HZS2.out HONE.out ?_))))
      go_roundw
      case rel => exact ⟨k + 1, by omega, by have := HLT.out; omega, by rw [wk], _, rfl, Lib.hid ⟨HS.out, HBA.out⟩⟩
      case measure => exact meas_k HLT.out wk hk0
    · obtain ⟨hs, hb⟩ := H.out
      have hkx : k.toNat = xs.length := by have := HN.out; omega
      rw [hkx, List.take_length, HN.out] at hs
      have hs' : s = strOfNums (hashesB xs) := hs
      have HS := Lib.hid hs'
      have HB := Lib.hid hb
      clear hs hs' hb hkx H
      go_wp2_with fail
      go_ret
      exact ⟨by rw [← HS.out]; rfl, HB.out⟩
end Go.Proofs.Ytfcmdhimlfoofaa.Hand

