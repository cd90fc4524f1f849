/- Several texts in one. -/
import Derived.Test.YtlmcdkjobdcflaaDoorProg
import Derived.Below
import Derived.Deep.Draws
import Derived.Deep.AppendLies
import Derived.Maps.AppendAt
import Derived.OwnWalk
import Derived.Laws.BytesArg
import Derived.Laws.MakeOwn
import Derived.Laws.OwnMore
import Derived.Deep.OwnRows
import Derived.Tactics
import Derived.Lib.ConvBytes
import Derived.Laws.Slices
import Derived.WalkKit
import Derived.KernelRfl
import Derived.RowKit3
import Derived.Deep.LoopGhost
import Derived.Deep.QuietTactic
import Derived.BigQuiet
import Derived.WideLaws
import Derived.Deep.DeepCutAuto
import Derived.Deep.CutBlock
import Derived.Deep.RegionHeld3
import Derived.Laws.Rows
import Derived.Lib.AppendStr
import Derived.ArgAppend
import Derived.Laws.IdiomCopy
import Derived.OrdersHeld
import Derived.Laws.BitsLemmas
import Derived.RowKit
import Derived.StillTailTactics
import Derived.Test.YtlmcdkjobdcflaaDoorWWords
import Derived.Test.YtlmcdkjobdcflaaDoorWLast
import Derived.Test.YtlmcdkjobdcflaaDoorWMore
import Derived.Lib.Hide
import Derived.Outline
import Derived.Deep.MidRow
import Derived.Deep.WholeRow
import Derived.Test.YtlmcdkjobdcflaaDoorClFB
import Derived.Test.YtlmcdkjobdcflaaDoorClFC
import Derived.Deep.DrawnRows
import Derived.Deep.Cut
import Derived.Deep.CutRange
import Derived.Test.YtlmcdkjobdcflaaDoorJoin10
import Derived.Carry
import Derived.Test.YtlmcdkjobdcflaaDoorOpens2
/- A list's double sums (mastheadlaw10.sums): walked. -/
namespace Go.Proofs.YtlmcdkjobdcflaaDoor.Hand
open Go Go.RowKit Go.Proofs.YtlmcdkjobdcflaaDoor.Plain Go.Proofs.YtlmcdkjobdcflaaDoor.PAll Go.Proofs.YtlmcdkjobdcflaaDoorW.PrintWords Go.Proofs.YtlmcdkjobdcflaaDoorW.PrintLast Go.Proofs.YtlmcdkjobdcflaaDoorW.PrintMore
set_option linter.unusedVariables false
set_option linter.unusedSimpArgs false
set_option maxRecDepth 100000
attribute [-go_sem] loadVar storeVar Instr.buildSlice
theorem run_build1t (A : Option Addr) (m c : Nat) (W : World) : (Instr.buildSlice 62 1 #[(0, .slice A m c)]).run Tryd.prog W = .ok (.slice (some ⟨W.heap.size, 0, none⟩) 1 1) (W.alloc (.cells #[.slice A m c] 33)) := by kernel_rfl
theorem run_load_bs (w : World) (a : Addr) (v : Value) (h : w.cell? a = some v) : (loadVar 33 a).run Tryd.prog w = .ok v w := by
  simp only [loadVar]
  go_simp
theorem map_take {α β : Type} (f : α → β) (xs : List α) {k : Nat} (h : k < xs.length) : (xs.map f).take (k + 1) = (xs.map f).take k ++ [f xs[k]] := by
  rw [List.take_succ_eq_append_getElem (by rw [List.length_map]; exact h), List.getElem_map]
set_option maxHeartbeats 4000000 in
theorem sums10_calls (A : Option Addr) (n c : Nat) (yss : List (List Int)) (w : World) (hn : n = yss.length) (hr : Kd.C kBs w A n yss) (hl : n ≤ 1000) (hy : ∀ ys ∈ yss, (∀ x ∈ ys, 0 ≤ x ∧ x < 256) ∧ ys.length ≤ 900000) (hK : KT w) :
    Calls Tryd.prog 51 #[.slice A n c] w fun e w' => ∃ v, e = .returned v ∧ Kd.R kH 25 w' w.heap.size (fun _ => True) v (yss.map twiceP) ∧ Below w.heap.size w w' := by
  have HR := Lib.hid hr
  have HN := Lib.hid (And.intro hn hy)
  have HK := Lib.hid hK
  clear hr hn hy hK
  go_enter Tryd.func51, Tryd.ntmps51
  go_wp2_with fail
  go_loopw [3, 8] (fun v i wr => ∃ k : Nat, k ≤ n ∧ i = .int .i64 (k : Int) ∧ Hid (Kd.R kH 25 wr w.heap.size (fun _ => True) v ((yss.map twiceP).take k) ∧ Below w.heap.size w wr)) (fun _ i _ => (n + 1 - (intOf i).toNat))
  case atStart => exact ⟨0, Nat.zero_le _, rfl, Lib.hid ⟨Kd.R_nil _ _ _ _ _, Below.refl _ _⟩⟩
  case round =>
    obtain ⟨k, hk, rfl, H⟩ := hrel
    obtain ⟨hR, hB⟩ := H.out
    by_cases hlt : k < n
    · have hklt : k < yss.length := by rw [← HN.out.1]; exact hlt
      have hCw : Kd.C kBs wr A yss.length yss := by rw [← HN.out.1]; exact Kd.C_below HR.out hB
      obtain ⟨ad, Ai, ci, rfl, hcell, hci, hCi⟩ := C_text hCw hklt
      have hyk := HN.out.2 _ (List.getElem_mem hklt)
      have htk := map_take twiceP yss hklt
      obtain ⟨ys, hys⟩ : ∃ ys, yss[k] = ys := ⟨_, rfl⟩
      rw [hys] at hcell hci hCi hyk htk
      obtain ⟨q, hq⟩ : ∃ q, ys.length = q := ⟨_, rfl⟩
      rw [hq] at hcell
      have hg : decide ((k : Int) < (n : Int)) = true := decide_eq_true (by omega)
      have hg2 : (k : Int) < (n : Int) := by omega
      have hld := run_load_bs wr (ad.add k) _ hcell
      have hb1 := fun u => run_build1t Ai q ci u
      have hTl := twiceP_len ys
      have hbs := fun u => run_hash1 (twiceP ys) hTl u
      have HBA := Lib.hid (below_alloc hB (.cells #[.slice Ai q ci] 33))
      have HTW := Lib.hid (show Calls Tryd.prog 50 #[.slice (some ⟨wr.heap.size, 0, none⟩) 1 1] (wr.alloc (.cells #[.slice Ai q ci] 33)) fun e w' => e = .returned (.agg (nums .u8 (twiceP ys)).toArray) ∧ Below (wr.alloc (.cells #[.slice Ai q ci] 33)).heap.size (wr.alloc (.cells #[.slice Ai q ci] 33)) w' from by
        have h9 := twice_calls (some ⟨wr.heap.size, 0, none⟩) 1 1 [ys] (wr.alloc (.cells #[.slice Ai q ci] 33)) rfl (C_one (A := Ai) (c := ci) (ys := ys) (by rw [hq]; exact heap_alloc_new wr _) hci (Kd.C_alloc hCi _)) (by simpa using hyk.1) (by simpa using hyk.2) (by decide) (HK.out.below HBA.out (Nat.le_refl _))
        rw [show [ys].flatten = ys by simp] at h9
        exact h9)
      have hcm := fun (u : World) => kH_M (w := u) (base := w.heap.size) (ok := fun _ => False) hTl
      obtain ⟨P, hP⟩ : ∃ P, nums .u8 (twiceP ys) = P := ⟨_, rfl⟩
      rw [hP] at hbs hcm HTW
      have HRR := Lib.hid (Kd.R_alloc hR (.cells #[.slice Ai q ci] 33))
      have HCM := Lib.hid hcm
      have HTL := Lib.hid (show (((yss.map twiceP).take k).length + 1) * 32 ≤ 140737488355328 by rw [List.length_take, List.length_map]; omega)
      have HTK := Lib.hid htk
      clear hR hB H hCw hcell hci hCi hyk htk hys hq hTl hcm hP hklt
      go_wp2_with fail
      (with_reducible refine HTW.out.mono ?_)
      rintro e w3 ⟨rfl, hb3⟩
      have HB3 := Lib.hid (HBA.out.trans (Below.mono hb3 HBA.out.size))
      have HR3 := Lib.hid (Kd.R_below HRR.out hb3)
      clear hb3 hld hb1
      go_wp2_with ((with_reducible refine gate_builtin (b := .append) (xs := #[.tmp 12, .tmp 16]) rfl ?_); at_builtin; refine Kd.R_append kH (w0 := w) w.heap.size rfl (.tmp 12) (.tmp 16) 22 25 (.agg (nums .u8 (List.replicate 32 0)).toArray) 32 rfl Tryd.underlying22 infoH3 rfl (by decide) (by decide) _ ((yss.map twiceP).take k) (twiceP ys) P (fun _ => True) (fun _ => False) rfl (by first | (go_simp; done) | (go_simp; rfl)) (HCM.out _) (fun _ h => h.elim) (fun _ _ => trivial) HR3.out HB3.out HB3.out.size HTL.out ?_; intro v4 w4 ho hb hg hat; have HR4 := Lib.hid ho; have HB4 := Lib.hid hb; clear ho hb hg hat)
      go_roundw
      case rel => exact ⟨k + 1, by omega, by first | rfl | (congr 1 <;> omega), Lib.hid ⟨HTK.out ▸ HR4.out, HB4.out⟩⟩
      case measure => simp only [intOf]; omega
    · have hg2 : ¬ (k : Int) < (n : Int) := by omega
      have htk : (yss.map twiceP).take k = yss.map twiceP := List.take_of_length_le (by rw [List.length_map, ← HN.out.1]; omega)
      rw [htk] at hR
      have HB := Lib.hid hB
      have HRR := Lib.hid hR
      clear hR hB H htk
      go_wp2_with fail
      go_ret
      exact ⟨_, rfl, HRR.out, HB.out⟩
end Go.Proofs.YtlmcdkjobdcflaaDoor.Hand


/- Texts in a map by their sums: what stands in it (no program). -/
namespace Go.Proofs.YtlmcdkjobdcflaaDoor.Hand
open Go Go.RowKit Go.Proofs.YtlmcdkjobdcflaaDoor.Plain Go.Proofs.YtlmcdkjobdcflaaDoorW.PrintWords Go.Proofs.YtlmcdkjobdcflaaDoorW.PrintLast Go.Proofs.YtlmcdkjobdcflaaDoorW.PrintMore
set_option linter.unusedVariables false
set_option linter.unusedSimpArgs false
set_option maxRecDepth 100000
/-- A slice's three words. -/
abbrev Tri := Option Addr × Nat × Nat
def trV (x : Tri) : Value := .slice x.1 x.2.1 x.2.2
def kS : Kd Tri := Kd.scalar trV (fun _ => rfl)
/-- The slices of the texts of one sum. -/
def sel (h : List Int) (ps : List (List Int × Tri)) : List Tri := (ps.filter (fun p => twiceP p.1 == h)).map (·.2)
theorem sel_snoc (h : List Int) (ps : List (List Int × Tri)) (y : List Int) (x : Tri) : sel h (ps ++ [(y, x)]) = sel h ps ++ if twiceP y = h then [x] else [] := by
  unfold sel
  rw [List.filter_append, List.map_append]
  congr 1
  by_cases e : twiceP y = h
  · simp [e]
  · simp [e]
theorem sel_same (y : List Int) (ps : List (List Int × Tri)) (x : Tri) : sel (twiceP y) (ps ++ [(y, x)]) = sel (twiceP y) ps ++ [x] := by rw [sel_snoc, if_pos rfl]
theorem sel_other {h : List Int} {y : List Int} (e : twiceP y ≠ h) (ps : List (List Int × Tri)) (x : Tri) : sel h (ps ++ [(y, x)]) = sel h ps := by rw [sel_snoc, if_neg e, List.append_nil]
theorem findL_none (h : List Int) : ∀ (L : List (List Int × Value)) (s : Nat), findL h L s = none → ∀ p ∈ L, p.1 ≠ h
  | [], _, _, p, hp => by simp at hp
  | (k, v) :: L, s, e, p, hp => by
    rw [findL] at e
    by_cases hb : (h == k) = true
    · rw [if_pos hb] at e
      cases e
    · rw [if_neg hb] at e
      rcases List.mem_cons.1 hp with rfl | hp
      · exact fun e9 => hb (by have e9 : k = h := e9; rw [e9]; exact beq_self_eq_true _)
      · exact findL_none h L (s + 1) e p hp
/-- The map's block b, its entries L; the texts so far with their slices; the rows lie from B on. -/
structure Grp (w : World) (b B : Nat) (L : List (List Int × Value)) (ps : List (List Int × Tri)) : Prop where
  at_ : w.heap[b]? = some (.map (mE L).toArray L.length)
  len : ∀ p ∈ L, p.1.length = 32
  key : ∀ i j (hi : i < L.length) (hj : j < L.length), L[i].1 = L[j].1 → i = j
  row : ∀ i (hi : i < L.length), Kd.R kS 33 w B (fun k => B ≤ k) L[i].2 (sel L[i].1 ps)
  none_ : ∀ h, (∀ p ∈ L, p.1 ≠ h) → sel h ps = []
  apart : ∀ i j (hi : i < L.length) (hj : j < L.length), i ≠ j → ∀ k, L[i].2.ownBlock = some k → L[j].2.ownBlock ≠ some k
theorem Grp.nil {w : World} {b B : Nat} (h : w.heap[b]? = some (.map #[] 0)) : Grp w b B [] [] :=
  ⟨h, by simp, fun i j hi => by simp at hi, fun i hi => by simp at hi, fun _ _ => rfl, fun i j hi => by simp at hi⟩
variable {w w1 w2 : World} {b B : Nat} {L : List (List Int × Value)} {ps : List (List Int × Tri)}
theorem Grp.move (h : Grp w b B L ps) (hb : w1.heap[b]? = w.heap[b]?) (hm : ∀ k, B ≤ k → k < w.heap.size → w1.heap[k]? = w.heap[k]?) : Grp w1 b B L ps :=
  { h with at_ := hb.trans h.at_, row := fun i hi => Kd.R_step (h.row i hi) (fun k hk => hm k hk) }
theorem R_S_ok {e : Nat} {v : Value} {xs : List Tri} {ok ok' : Nat → Prop} (h : Kd.R kS e w B ok v xs) (ho : ∀ k, v.ownBlock = some k → ok' k) : Kd.R kS e w B ok' v xs :=
  ⟨ho, h.2.imp_ (fun _ _ hp => hp)⟩
theorem Grp.new (h : Grp w b B L ps) {y : List Int} {x : Tri} {v : Value} (hn : findL (twiceP y) L 0 = none) (hv : Kd.R kS 33 w2 B (fun k => B ≤ k) v [x]) (hnew : ∀ k, v.ownBlock = some k → w.heap.size ≤ k)
    (hat : w2.heap[b]? = some (.map (mE (L ++ [(twiceP y, v)])).toArray (L.length + 1))) (hm : ∀ k, B ≤ k → k < w.heap.size → w2.heap[k]? = w.heap[k]?) : Grp w2 b B (L ++ [(twiceP y, v)]) (ps ++ [(y, x)]) := by
  have hno := findL_none (twiceP y) L 0 hn
  have hlast : (L ++ [(twiceP y, v)])[L.length]'(by simp) = (twiceP y, v) := by simp
  have hold : ∀ i (hi : i < L.length), (L ++ [(twiceP y, v)])[i]'(by simp; omega) = L[i] := fun i hi => List.getElem_append_left hi
  have hcase : ∀ i, i < (L ++ [(twiceP y, v)]).length → i < L.length ∨ i = L.length := fun i hi => by
    rw [List.length_append, List.length_singleton] at hi
    omega
  refine ⟨by rw [hat, List.length_append, List.length_singleton], ?_, ?_, ?_, ?_, ?_⟩
  · intro p hp
    rcases List.mem_append.1 hp with hp | hp
    · exact h.len p hp
    · obtain rfl := List.mem_singleton.1 hp
      exact twiceP_len y
  · intro i j hi hj e
    rcases hcase i hi with h1 | rfl <;> rcases hcase j hj with h2 | rfl
    · rw [hold i h1, hold j h2] at e
      exact h.key i j h1 h2 e
    · rw [hold i h1, hlast] at e
      exact absurd e (hno _ (List.getElem_mem h1))
    · rw [hold j h2, hlast] at e
      exact absurd e.symm (hno _ (List.getElem_mem h2))
    · rfl
  · intro i hi
    rcases hcase i hi with h1 | rfl
    · rw [hold i h1]
      have hne : twiceP y ≠ L[i].1 := fun e => hno _ (List.getElem_mem h1) e.symm
      rw [sel_other hne]
      exact Kd.R_step (h.row i h1) (fun k hk => hm k hk)
    · rw [hlast]
      have h0 : sel (twiceP y) ps = [] := h.none_ _ hno
      show Kd.R kS _ w2 B _ v (sel (twiceP y) (ps ++ [(y, x)]))
      rw [sel_same, h0]
      exact hv
  · intro h9 hall
    have e1 : twiceP y ≠ h9 := hall (twiceP y, v) (by simp)
    rw [sel_other e1]
    exact h.none_ h9 (fun p hp => hall p (by simp [hp]))
  · intro i j hi hj hij k
    rcases hcase i hi with h1 | rfl <;> rcases hcase j hj with h2 | rfl
    · rw [hold i h1, hold j h2]
      exact h.apart i j h1 h2 hij k
    · rw [hold i h1, hlast]
      intro e1 e2
      have a1 := Kd.R_lt (h.row i h1) k e1
      have a2 := hnew k e2
      omega
    · rw [hold j h2, hlast]
      intro e1 e2
      have a1 := Kd.R_lt (h.row j h2) k e2
      have a2 := hnew k e1
      omega
    · exact absurd rfl hij
theorem Grp.old (h : Grp w b B L ps) {y : List Int} {x : Tri} {i : Nat} {v v1 : Value} (hf : findL (twiceP y) L 0 = some (i, v)) (hv : Kd.R kS 33 w2 B (fun k => B ≤ k) v1 (sel (twiceP y) ps ++ [x])) (hown : v1.ownBlock = v.ownBlock ∨ ∃ b, v1.ownBlock = some b ∧ w.heap.size ≤ b)
    (hat : w2.heap[b]? = some (.map (mE (L.set i (twiceP y, v1))).toArray L.length)) (hm : ∀ k, B ≤ k → k < w.heap.size → some k ≠ v.ownBlock → w2.heap[k]? = w.heap[k]?) : Grp w2 b B (L.set i (twiceP y, v1)) (ps ++ [(y, x)]) := by
  obtain ⟨_, hi, hLi⟩ := findL_spec _ _ _ _ _ hf
  have hi : i < L.length := hi
  have hLi : L[i] = (twiceP y, v) := hLi
  have hl : (L.set i (twiceP y, v1)).length = L.length := List.length_set
  have hsame : ∀ (hj : i < (L.set i (twiceP y, v1)).length), (L.set i (twiceP y, v1))[i] = (twiceP y, v1) := fun hj => List.getElem_set_self _
  have hoth : ∀ j (hj : j < (L.set i (twiceP y, v1)).length), j ≠ i → (L.set i (twiceP y, v1))[j] = L[j]'(by rw [hl] at hj; exact hj) := fun j hj hne => List.getElem_set_ne (Ne.symm hne) _
  have hkeys : ∀ j (hj : j < (L.set i (twiceP y, v1)).length), (L.set i (twiceP y, v1))[j].1 = (L[j]'(by rw [hl] at hj; exact hj)).1 := fun j hj => by
    by_cases e : j = i
    · subst e
      rw [hsame hj, hLi]
    · rw [hoth j hj e]
  refine ⟨by rw [hat, hl], ?_, ?_, ?_, ?_, ?_⟩
  · intro p hp
    obtain ⟨j, hj, rfl⟩ := List.getElem_of_mem hp
    rw [hkeys j hj]
    exact h.len _ (List.getElem_mem _)
  · intro j k hj hk e
    rw [hkeys j hj, hkeys k hk] at e
    exact h.key j k _ _ e
  · intro j hj
    by_cases e : j = i
    · subst e
      rw [hsame hj]
      show Kd.R kS _ w2 B _ v1 (sel (twiceP y) (ps ++ [(y, x)]))
      rw [sel_same]
      exact hv
    · rw [hoth j hj e]
      have hj2 : j < L.length := by rw [hl] at hj; exact hj
      have hne : twiceP y ≠ L[j].1 := fun e9 => e (h.key j i hj2 hi (by rw [← e9, hLi]))
      rw [sel_other hne]
      have hr := R_S_ok (ok' := fun k => B ≤ k ∧ some k ≠ v.ownBlock) (h.row j hj2) (fun k hk => ⟨(h.row j hj2).1 k hk, fun e9 => by
        have := h.apart j i hj2 hi e k hk
        rw [hLi] at this
        exact this e9.symm⟩)
      exact Kd.R_mono (Kd.R_step hr (fun k hk hlt => hm k hk.1 hlt hk.2)) (fun _ hk => hk.1)
  · intro h9 hall
    have e1 : twiceP y ≠ h9 := by
      have := hall (twiceP y, v1) (List.mem_iff_getElem.2 ⟨i, by rw [hl]; exact hi, hsame _⟩)
      exact this
    rw [sel_other e1]
    refine h.none_ h9 (fun p hp => ?_)
    obtain ⟨j, hj, rfl⟩ := List.getElem_of_mem hp
    rw [← hkeys j (by rw [hl]; exact hj)]
    exact hall _ (List.getElem_mem _)
  · intro j k hj hk hjk z
    have hj2 : j < L.length := by rw [hl] at hj; exact hj
    have hk2 : k < L.length := by rw [hl] at hk; exact hk
    by_cases e1 : j = i
    · subst e1
      rw [hsame hj, hoth k hk (Ne.symm hjk)]
      intro a1 a2
      rcases hown with h1 | ⟨c, h1, h2⟩
      · have := h.apart j k hi hk2 hjk z (by rw [hLi]; exact h1.symm.trans a1)
        exact this a2
      · have := Kd.R_lt (h.row k hk2) z a2
        rw [h1] at a1
        injection a1 with a1
        omega
    · by_cases e2 : k = i
      · subst e2
        rw [hoth j hj e1, hsame hk]
        intro a1 a2
        rcases hown with h1 | ⟨c, h1, h2⟩
        · have := h.apart j k hj2 hi e1 z a1
          rw [hLi] at this
          exact this (h1.symm.trans a2)
        · have := Kd.R_lt (h.row j hj2) z a1
          rw [h1] at a2
          injection a2 with a2
          omega
      · rw [hoth j hj e1, hoth k hk e2]
        exact h.apart j k hj2 hk2 hjk z
/-- The look-up's row. -/
theorem Grp.look (h : Grp w b B L ps) (t : List Int) : ∃ A m c, (match findL t L 0 with | some (_, v) => v | none => .slice none 0 0) = .slice A m c ∧ m = (sel t ps).length ∧ Kd.C kS w A m (sel t ps) := by
  cases hf : findL t L 0 with
  | none =>
    have h0 : sel t ps = [] := h.none_ _ (findL_none t L 0 hf)
    rw [h0]
    exact ⟨none, 0, 0, rfl, rfl, Kd.C_nil _ _⟩
  | some q =>
    obtain ⟨i, v⟩ := q
    obtain ⟨_, hi, hLi⟩ := findL_spec _ _ _ _ _ hf
    have hi : i < L.length := hi
    have hLi : L[i] = (t, v) := hLi
    have hr := h.row i hi
    rw [hLi] at hr
    obtain ⟨A, c, e, _, hC⟩ := Kd.R_reads hr
    exact ⟨A, _, c, e, rfl, hC⟩
theorem C_tri {w : World} {A : Option Addr} {m : Nat} {xs : List Tri} (h : Kd.C kS w A m xs) {i : Nat} (hi : i < xs.length) : ∃ ad, A = some ad ∧ w.cell? (ad.add i) = some (trV xs[i]) := by
  obtain ⟨h1, _, h3⟩ := h
  obtain ⟨ad, e, hc⟩ := h3 (by omega)
  obtain ⟨c, hl, hK, hcell⟩ := hc i xs[i] (List.getElem?_eq_getElem hi)
  obtain rfl : c = [trV xs[i]] := hK
  refine ⟨ad, e, ?_⟩
  have := hcell 0 _ rfl
  rw [← this]
  congr 2
  show i = i * 1 + 0
  omega
/-- What lies in a world's other blocks stays; the block b is a map. -/
def Kp (w : World) (b : Nat) (u : World) : Prop := (∃ es c, w.heap[b]? = some (.map es c)) ∧ ∀ k, k < w.heap.size → k ≠ b → u.heap[k]? = w.heap[k]?
theorem Kp.cell (h : Kp w b w1) {ad : Addr} {v : Value} (hc : w.cell? ad = some v) : w1.cell? ad = some v := by
  obtain ⟨⟨es, c, hb⟩, hk⟩ := h
  refine (World.cell?_of_block (hk _ (World.block_lt_of_cell? w _ hc) (fun e => ?_))).trans hc
  have : w.cell? ad = none := by
    unfold World.cell?
    rw [e, hb]
  rw [this] at hc
  cases hc
theorem Kp.C {k : IntKind} {A : Option Addr} {n : Nat} {xs : List Int} (h : Kp w b w1) (hC : Kd.C (Kd.int k) w A n xs) : Kd.C (Kd.int k) w1 A n xs := by
  refine ⟨hC.1, hC.2.1, fun hp => ?_⟩
  obtain ⟨ad, e, hc⟩ := hC.2.2 hp
  refine ⟨ad, e, fun j p hj => ?_⟩
  obtain ⟨c, h1, h2, h3⟩ := hc j p hj
  exact ⟨c, h1, h2, fun i u hu => h.cell (h3 i u hu)⟩
theorem putW_alloc (W : World) (b : Nat) (o o2 : Obj) (h : b < W.heap.size) : putW (W.alloc o2) b o = (putW W b o).alloc o2 := by
  have h1 : (W.heap.push o2).setIfInBounds b o = (W.heap.setIfInBounds b o).push o2 := by
    apply Array.ext_getElem?
    intro k
    rw [Array.getElem?_setIfInBounds, Array.getElem?_push, Array.getElem?_push, Array.getElem?_setIfInBounds, Array.size_push, Array.size_setIfInBounds]
    by_cases e : b = k
    · subst e
      rw [if_pos rfl, if_pos (by omega), if_neg (by omega), if_pos rfl, if_pos h]
    · simp [e]
  show ({ W.alloc o2 with heap := (W.heap.push o2).setIfInBounds b o } : World) = { putW W b o with heap := (W.heap.setIfInBounds b o).push o2 }
  rw [h1]
  rfl
theorem putW_size (W : World) (b : Nat) (o : Obj) : (putW W b o).heap.size = W.heap.size := by simp [putW]
theorem putW_below {U W : World} {B0 b : Nat} (h : Below B0 U W) (hb : B0 ≤ b) (o : Obj) : Below B0 U (putW W b o) :=
  ⟨h.os, h.tape, h.output, by rw [putW_size]; exact h.size, fun k hk => (putW_other (by omega)).trans (h.block k hk)⟩
end Go.Proofs.YtlmcdkjobdcflaaDoor.Hand


/- A list's texts (clash.Texts): the plain form, and walked. -/
namespace Go.Proofs.YtlmcdkjobdcflaaDoor.Hand
open Go Go.RowKit Go.Proofs.YtlmcdkjobdcflaaDoor.Plain Go.Proofs.YtlmcdkjobdcflaaDoor.PAll Go.Proofs.YtlmcdkjobdcflaaDoorW.PrintWords Go.Proofs.YtlmcdkjobdcflaaDoorW.PrintLast Go.Proofs.YtlmcdkjobdcflaaDoorW.PrintMore
set_option linter.unusedVariables false
set_option linter.unusedSimpArgs false
set_option maxRecDepth 100000
attribute [local go_sem ↓] Go.wp_at_zero Go.wp_at_succ
attribute [-go_sem] loadVar storeVar Instr.buildSlice
/-- The text of an inner node, and those of a level. -/
def pairT (xs : List (List Int)) (k : Nat) : List Int := rdH xs (2 * k) ++ rdH xs (min (2 * k + 1) (xs.length - 1))
def rowT (xs : List (List Int)) : List (List Int) := (List.range ((xs.length + 1) / 2)).map (pairT xs)
/-- The texts when so many levels are done. -/
def textsAt (yss : List (List Int)) : Nat → List (List Int)
  | 0 => yss
  | k + 1 => textsAt yss k ++ rowT (lev (yss.map twiceP) k)
def textsP (yss : List (List Int)) : List (List Int) := textsAt yss (depthP yss.length)
theorem rowT_len (xs : List (List Int)) : (rowT xs).length = (xs.length + 1) / 2 := by simp [rowT]
theorem rowT_take {xs : List (List Int)} {k : Nat} (h : k < (xs.length + 1) / 2) : (rowT xs).take (k + 1) = (rowT xs).take k ++ [pairT xs k] := by
  rw [List.take_succ_eq_append_getElem (by rw [rowT_len]; exact h)]
  simp [rowT]
theorem textsAt_len (yss : List (List Int)) : ∀ k, (textsAt yss k).length ≤ (k + 1) * yss.length
  | 0 => by simp [textsAt]
  | k + 1 => by
    have ih := textsAt_len yss k
    have h1 : (lev (yss.map twiceP) k).length ≤ yss.length := by rw [lev_len, List.length_map]; exact wideP_le _ _
    rw [textsAt, List.length_append, rowT_len]
    by_cases h0 : yss.length = 0
    · have : (lev (yss.map twiceP) k).length = 0 := by omega
      rw [h0] at ih ⊢
      omega
    · have e : (k + 1 + 1) * yss.length = (k + 1) * yss.length + yss.length := by rw [Nat.add_mul (k + 1) 1, Nat.one_mul]
      omega
theorem infoBs : (Tryd.prog.info? 33).map (fun i => (i.zero, i.size, i.bytes)) = some (some (.slice none 0 0), 1, 24) := by kernel_rfl
/-- A new text as an element of a row of texts. -/
theorem text_M {w0 w1 : World} {base : Nat} {v : Value} {ys : List Int} (hv : Kd.R (Kd.int .u8) 5 w1 w0.heap.size (fun _ => True) v ys) (hb : base ≤ w0.heap.size) : kBs.M w1 base (fun k => w0.heap.size ≤ k) ys [v] :=
  ⟨v, rfl, Kd.R_lower (Kd.R_mono (Kd.R_bound hv) (fun k h => h.2.1)) hb⟩
theorem ne_own9 {w0 : World} {e base : Nat} {α : Type} {d : Kd α} {ok : Nat → Prop} {v : Value} {xs : List α} (h : Kd.R d e w0 base ok v xs) : ∀ k, w0.heap.size ≤ k → True ∧ some k ≠ v.ownBlock := fun k hk => ⟨trivial, fun e => by
  have := Kd.R_lt h k e.symm
  omega⟩
theorem ty_a : ∀ q, q ∈ 25 :: kH.E → q ≠ 33 := by decide
theorem ty_b : ∀ q, q ∈ 33 :: kBs.E → q ≠ 25 := by decide
theorem run_build2t (A A2 : Option Addr) (m c m2 c2 : Nat) (W : World) : (Instr.buildSlice 62 2 #[(0, .slice A m c), (1, .slice A2 m2 c2)]).run Tryd.prog W = .ok (.slice (some ⟨W.heap.size, 0, none⟩) 2 2) (W.alloc (.cells #[.slice A m c, .slice A2 m2 c2] 33)) := by kernel_rfl
theorem slice_atH (W : World) (b o : Nat) : (Instr.sliceAt 25 (.pointer (some ⟨b, o, none⟩)) none none none).run Tryd.prog W = .ok (.slice (some ⟨b, o, none⟩) 32 32) W := by
  rw [run_sliceAt_array_all W 25 ⟨b, o, none⟩ arrH.1]
  have z : (sizeOf (Tryd.prog.elem 25)).run Tryd.prog W = .ok 1 W := by rfl
  rw [z, arrH.2]
  rfl
theorem C_u8_range {w : World} {b o : Nat} {ys : List Int} (h : w.rangeAt b o (nums .u8 ys)) (hl : ys.length ≤ 9223372036854775807) : Kd.C (Kd.int .u8) w (some ⟨b, o, none⟩) ys.length ys := by
  refine ⟨rfl, hl, fun _ => ⟨⟨b, o, none⟩, rfl, fun j p hj => ⟨[.int .u8 p], rfl, rfl, fun i u hu => ?_⟩⟩⟩
  have hjl := (List.getElem?_eq_some_iff.1 hj).1
  cases i with
  | succ i => simp at hu
  | zero =>
    have hu2 : u = .int .u8 p := by simpa using hu.symm
    subst hu2
    have h1 := h j (.int .u8 p) (by simp [nums, hj])
    rw [cell_add]
    have e : o + (j * (Kd.int IntKind.u8).sz + 0) = o + j := by
      show o + (j * 1 + 0) = o + j
      omega
    rw [e]
    exact h1
theorem step2 {m : Nat} (h : m ≤ 100000) : wrap64 (((2 * m : Nat) : Int) + 2) = ((2 * (m + 1) : Nat) : Int) := by
  rw [IntWalk.wrap64_in _ ⟨by omega, by omega⟩]
  omega
set_option maxHeartbeats 8000000 in
theorem texts10_calls (A : Option Addr) (n c : Nat) (yss : List (List Int)) (w : World) (hn : n = yss.length) (hr : Kd.C kBs w A n yss) (hl : n ≤ 1000) (hy : ∀ ys ∈ yss, (∀ x ∈ ys, 0 ≤ x ∧ x < 256) ∧ ys.length ≤ 900000) (hK : KT w) :
    Calls Tryd.prog 43 #[.slice A n c] w fun e w' => ∃ v, e = .returned v ∧ Kd.R kBs 33 w' w.heap.size (fun _ => True) v (textsP yss) ∧ Below w.heap.size w w' := by
  have HR := Lib.hid hr
  have HN := Lib.hid (And.intro hn hy)
  have HK := Lib.hid hK
  clear hr hn hy hK
  go_enter Tryd.func43, Tryd.ntmps43
  go_wp2_with fail
  go_loopw [3, 4, 11] (fun v v4 i wr => ∃ k : Nat, k ≤ n ∧ i = .int .i64 (k : Int) ∧ Hid (Kd.R kBs 33 wr w.heap.size (fun _ => True) v (yss.take k) ∧ Kd.R kH 25 wr w.heap.size (fun _ => True) v4 ((yss.map twiceP).take k) ∧ Below w.heap.size w wr)) (fun _ _ i _ => (n + 1 - (intOf i).toNat))
  case atStart => exact ⟨0, Nat.zero_le _, rfl, Lib.hid ⟨Kd.R_nil _ _ _ _ _, Kd.R_nil _ _ _ _ _, Below.refl _ _⟩⟩
  case round =>
    obtain ⟨k, hk, rfl, H⟩ := hrel
    obtain ⟨hR, hL, hB⟩ := H.out
    by_cases hlt : k < n
    · have hklt : k < yss.length := by rw [← HN.out.1]; exact hlt
      have hCw : Kd.C kBs w A yss.length yss := by rw [← HN.out.1]; exact HR.out
      obtain ⟨ad, Ai, ci, rfl, hcell0, hci, hCi⟩ := C_text hCw hklt
      have hcell := (World.cell?_of_block (hB.block _ (World.block_lt_of_cell? w _ hcell0))).trans hcell0
      have hyk := HN.out.2 _ (List.getElem_mem hklt)
      have htk := map_take twiceP yss hklt
      have htt : yss.take (k + 1) = yss.take k ++ [yss[k]] := List.take_succ_eq_append_getElem hklt
      obtain ⟨ys, hys⟩ : ∃ ys, yss[k] = ys := ⟨_, rfl⟩
      rw [hys] at hcell hci hCi hyk htk htt
      clear hcell0
      obtain ⟨q, hq⟩ : ∃ q, ys.length = q := ⟨_, rfl⟩
      rw [hq] at hcell
      have hg2 : (k : Int) < (n : Int) := by omega
      have hld := run_load_bs wr (ad.add k) _ hcell
      have hb1 := fun A m c u => run_build1t A m c u
      have hTl := twiceP_len ys
      have HCL := Lib.hid (clone_calls Ai q ci ys wr hq.symm (Kd.C_below hCi hB) (by simpa using hci) (by rw [hq]; omega))
      have HTW := Lib.hid (show ∀ (u : World), Below w.heap.size w u → Calls Tryd.prog 50 #[.slice (some ⟨u.heap.size, 0, none⟩) 1 1] (u.alloc (.cells #[.slice Ai q ci] 33)) fun e w' => e = .returned (.agg (nums .u8 (twiceP ys)).toArray) ∧ Below (u.alloc (.cells #[.slice Ai q ci] 33)).heap.size (u.alloc (.cells #[.slice Ai q ci] 33)) w' from fun u hu => by
        have hBu := hu
        have h9 := twice_calls (some ⟨u.heap.size, 0, none⟩) 1 1 [ys] (u.alloc (.cells #[.slice Ai q ci] 33)) rfl (C_one (A := Ai) (c := ci) (ys := ys) (by rw [hq]; exact heap_alloc_new u _) hci (Kd.C_alloc (Kd.C_below hCi hu) _)) (by simpa using hyk.1) (by simpa using hyk.2) (by decide) (HK.out.below (below_alloc hBu _) (Nat.le_refl _))
        rw [show [ys].flatten = ys by simp] at h9
        exact h9)
      have hcm := fun (u : World) => kH_M (w := u) (base := w.heap.size) (ok := fun _ => False) hTl
      have hbs := fun u => run_hash1 (twiceP ys) hTl u
      obtain ⟨P, hP⟩ : ∃ P, nums .u8 (twiceP ys) = P := ⟨_, rfl⟩
      rw [hP] at hbs hcm HTW
      have HCM := Lib.hid hcm
      have HTA := Lib.hid (show ((yss.take k).length + 1) * 24 ≤ 140737488355328 by rw [List.length_take]; omega)
      have HTB := Lib.hid (show (((yss.map twiceP).take k).length + 1) * 32 ≤ 140737488355328 by rw [List.length_take, List.length_map]; omega)
      have HTK := Lib.hid (And.intro htt htk)
      have HRR := Lib.hid hR
      have HLL := Lib.hid hL
      have HBB := Lib.hid hB
      clear hR hL hB H hCw hcell hci hCi hyk htk htt hys hTl hcm hP hklt
      go_wp2_with fail
      refine HCL.out.mono ?_
      rintro e w1 ⟨v1, rfl, hv1, hb9⟩
      have HX1 := Lib.hid (And.intro hv1 hb9)
      obtain ⟨A1, c1, rfl⟩ := Kd.R_slice hv1
      have HM1 := Lib.hid (text_M hv1 HBB.out.size)
      have HR1 := Lib.hid (Kd.R_below HRR.out hb9)
      have HL1 := Lib.hid (Kd.R_below HLL.out hb9)
      have HB1 := Lib.hid (HBB.out.trans (Below.mono hb9 HBB.out.size))
      have HN1 := Lib.hid (ne_own9 HRR.out)
      clear hv1 hb9 hld
      obtain ⟨q1, hq1⟩ : ∃ q, ys.length = q := ⟨_, rfl⟩
      rw [hq1] at HM1
      rw [hq1]
      clear hq1
      go_wp2_with ((with_reducible refine gate_builtin (b := .append) (xs := #[.tmp 15, .tmp 18]) rfl ?_); at_builtin; refine Kd.R_append kBs (w0 := w) w.heap.size rfl (.tmp 15) (.tmp 18) 62 33 (.slice none 0 0) 24 rfl Tryd.underlying62 infoBs rfl (by decide) (by decide) _ (yss.take k) ys [.slice A1 q1 c1] (fun _ => True) (fun k => wr.heap.size ≤ k) rfl (by first | (go_simp; done) | (go_simp; rfl)) HM1.out HN1.out (fun _ _ => trivial) HR1.out HB1.out HB1.out.size HTA.out ?_; intro v2 w2 ho hb hg hat; have HR2 := Lib.hid ho; have HB2 := Lib.hid hb; have HL2 := Lib.hid (Kd.R_over HL1.out HR1.out ty_a hg); have HG2 := Lib.hid hg; clear ho hb hg hat)
      clear hb1
      have hb1 := run_build1t Ai q ci w2
      go_wp2_with fail
      (with_reducible refine (HTW.out _ HB2.out).mono ?_)
      rintro e w3 ⟨rfl, hb3⟩
      have HB3 := Lib.hid ((below_alloc HB2.out (.cells #[.slice Ai q ci] 33)).trans (Below.mono hb3 (below_alloc HB2.out (.cells #[.slice Ai q ci] 33)).size))
      have HR3 := Lib.hid (Kd.R_below (Kd.R_alloc HR2.out (.cells #[.slice Ai q ci] 33)) hb3)
      have HL3 := Lib.hid (Kd.R_below (Kd.R_alloc HL2.out (.cells #[.slice Ai q ci] 33)) hb3)
      clear hb3 hb1
      go_wp2_with ((with_reducible refine gate_builtin (b := .append) (xs := #[.tmp 20, .tmp 24]) rfl ?_); at_builtin; refine Kd.R_append kH (w0 := w) w.heap.size rfl (.tmp 20) (.tmp 24) 22 25 (.agg (nums .u8 (List.replicate 32 0)).toArray) 32 rfl Tryd.underlying22 infoH3 rfl (by decide) (by decide) _ ((yss.map twiceP).take k) (twiceP ys) P (fun _ => True) (fun _ => False) rfl (by first | (go_simp; done) | (go_simp; rfl)) (HCM.out _) (fun _ h => h.elim) (fun _ _ => trivial) HL3.out HB3.out HB3.out.size HTB.out ?_; intro v4 w4 ho hb hg hat; have HL4 := Lib.hid ho; have HB4 := Lib.hid hb; have HR4 := Lib.hid (Kd.R_over HR3.out HL3.out ty_b hg); clear ho hb hg hat)
      go_roundw
      case rel => exact ⟨k + 1, by omega, by first | rfl | (congr 1 <;> omega), Lib.hid ⟨by rw [HTK.out.1]; exact HR4.out, by rw [HTK.out.2]; exact HL4.out, HB4.out⟩⟩
      case measure => simp only [intOf]; omega
    · have hg2 : ¬ (k : Int) < (n : Int) := by omega
      have e1 : yss.take k = yss := List.take_of_length_le (by rw [← HN.out.1]; omega)
      have e2 : (yss.map twiceP).take k = yss.map twiceP := List.take_of_length_le (by rw [List.length_map, ← HN.out.1]; omega)
      rw [e1] at hR
      rw [e2] at hL
      have HR0 := Lib.hid hR
      have HL0 := Lib.hid hL
      have HB0 := Lib.hid hB
      clear hR hL hB H e1 e2
      go_wp2_with fail
      obtain ⟨xs, hxs⟩ : ∃ xs, yss.map twiceP = xs := ⟨_, rfl⟩
      have hxl : xs.length = n := by rw [← hxs, List.length_map, HN.out.1]
      have hxH : Hs xs := by
        rw [← hxs]
        intro p hp
        obtain ⟨y, _, rfl⟩ := List.mem_map.1 hp
        exact ⟨twiceP_len _, twiceP_bytes _⟩
      rw [hxs] at HL0
      obtain ⟨A0, c0, rfl⟩ := Kd.R_slice HL0.out
      have hd := depthP_is n
      obtain ⟨d, hde⟩ : ∃ d, depthP n = d := ⟨_, rfl⟩
      rw [hde] at hd
      have HD := Lib.hid (And.intro hd (show textsP yss = textsAt yss d from by unfold textsP; rw [← HN.out.1, hde]))
      have HX := Lib.hid (And.intro hxl (And.intro hxH hxs))
      have hd16 : d ≤ 10 := depth_le hd (m := 10) (by have h10 : (2 : Nat) ^ 10 = 1024 := by decide
                                                      omega)
      rw [hxl]
      rw [hxl] at HL0
      clear hd hde hxl hxH hxs hg2 hlt
      go_loopw [3, 4] (fun v v4 wr => ∃ (k l : Nat) (A4 : Option Addr) (c4 : Nat), v4 = .slice A4 l c4 ∧ Hid (k ≤ d ∧ wideP n k = l ∧ Kd.R kBs 33 wr w.heap.size (fun _ => True) v (textsAt yss k) ∧ Kd.R kH 25 wr w.heap.size (fun _ => True) (.slice A4 l c4) (lev xs k) ∧ Below w.heap.size w wr)) (fun _ v4 _ => lenV9 v4)
      case atStart => exact ⟨0, n, A0, c0, rfl, Lib.hid ⟨Nat.zero_le _, rfl, HR0.out, HL0.out, HB0.out⟩⟩
      case round =>
        obtain ⟨k2, l, A4, c4, rfl, H⟩ := hrel
        obtain ⟨hkd, hwl, hR, hL, hB⟩ := H.out
        have hln : l ≤ n := by rw [← hwl]; exact wideP_le n k2
        have HWL := Lib.hid hwl
        have HR2 := Lib.hid hR
        have HL2 := Lib.hid hL
        have HB2 := Lib.hid hB
        clear hwl hR hL hB H
        by_cases hl1 : 1 < l
        · have g1 : (1 : Int) < (l : Int) := by omega
          have hkd2 : k2 < d := by
            rcases Nat.lt_or_ge k2 d with h | h
            · exact h
            · have he : k2 = d := by omega
              have hw := (depth_wide HD.out.1).1
              rw [← he, HWL.out] at hw
              omega
          have hLl : (lev xs k2).length = l := by rw [lev_len, HX.out.1, HWL.out]
          have HLL := Lib.hid hLl
          have htl := textsAt_len yss k2
          have HTL := Lib.hid (show (textsAt yss k2).length ≤ 11000 from by
            rw [← HN.out.1] at htl
            have h9 : (k2 + 1) * n ≤ 11 * 1000 := Nat.mul_le_mul (by omega) hl
            omega)
          clear hLl htl
          go_wp2_with fail
          go_loopw [3, 7] (fun v v7 wr => ∃ m : Nat, v7 = .int .i64 ((2 * m : Nat) : Int) ∧ Hid (m ≤ (l + 1) / 2 ∧ Kd.R kBs 33 wr w.heap.size (fun _ => True) v (textsAt yss k2 ++ (rowT (lev xs k2)).take m) ∧ Kd.R kH 25 wr w.heap.size (fun _ => True) (.slice A4 l c4) (lev xs k2) ∧ Below w.heap.size w wr)) (fun _ v7 _ => (l + 2 - (intOf v7).toNat))
          case atStart => exact ⟨0, rfl, Lib.hid ⟨Nat.zero_le _, by simpa using HR2.out, HL2.out, HB2.out⟩⟩
          case round =>
            clear HR2 HL2 HB2
            obtain ⟨m, rfl, H⟩ := hrel
            obtain ⟨hm2, hR, hL, hB⟩ := H.out
            obtain ⟨i0, hi0⟩ : ∃ x, 2 * m = x := ⟨_, rfl⟩
            rw [hi0]
            have HI0 := Lib.hid hi0
            by_cases hml : i0 < l
            · have gi : (i0 : Int) < (l : Int) := by omega
              have gi0 : (0 : Int) ≤ (i0 : Int) := by omega
              have hC4 := (Kd.R_reads' hL).2.2
              obtain ⟨b, o, rfl, hbl, hrg⟩ := C_hash (w := wr) (A := A4) (xs := lev xs k2) hC4 (by rw [HLL.out]; omega)
              obtain ⟨j, hj⟩ : ∃ j, min (i0 + 1) (l - 1) = j := ⟨_, rfl⟩
              have hpr : pairT (lev xs k2) m = rdH (lev xs k2) i0 ++ rdH (lev xs k2) j := by unfold pairT; rw [HLL.out, hi0, hj]
              have htk := rowT_take (xs := lev xs k2) (k := m) (by rw [HLL.out]; omega)
              obtain ⟨r1, s1⟩ := hrg i0 (by rw [HLL.out]; exact hml)
              obtain ⟨r2, s2⟩ := hrg j (by rw [HLL.out]; omega)
              obtain ⟨p, hpe⟩ : ∃ p, rdH (lev xs k2) i0 = p := ⟨_, rfl⟩
              obtain ⟨q, hqe⟩ : ∃ q, rdH (lev xs k2) j = q := ⟨_, rfl⟩
              rw [hpe] at r1 s1 hpr
              rw [hqe] at r2 s2 hpr
              rw [hpr] at htk
              have hQ1 := nums_one .u8 q
              have hQl : (nums .u8 q).length = 32 := by rw [nums_len]; exact s2
              obtain ⟨Q, hQ⟩ : ∃ X, nums .u8 q = X := ⟨_, rfl⟩
              rw [hQ] at r2 hQ1 hQl
              have HIQ := Lib.hid (show (Tryd.prog.info? 25).map (·.size) = some Q.length ∧ (Tryd.prog.info? 25).map (·.size) = some Q.toArray.size ∧ (nums .u8 (List.replicate 32 0)).toArray.size = Q.toArray.size ∧ Q.toArray.all (·.oneCell') = true from ⟨by rw [hQl]; exact (zero_of_info infoHash).2, by rw [List.size_toArray, hQl]; exact (zero_of_info infoHash).2, by rw [List.size_toArray, List.size_toArray, hQl]; rfl, all_oneCell_toArray hQ1⟩)
              have hzH := (zero_of_info infoHash).1
              have hu := Tryd.underlying25
              have HR2 := Lib.hid r2
              have jj1 : min ((i0 : Int) + 1) ((l : Int) - 1) = (j : Int) := by omega
              have jj0 : (0 : Int) ≤ (j : Int) := by omega
              have jj2 : (j : Int) < (l : Int) := by omega
              have hwm : IntKind.i64.wrap ((i0 : Int) + 1) = (i0 : Int) + 1 := IntWalk.i64_in _ (by omega)
              have hwl : IntKind.i64.wrap ((l : Int) - 1) = (l : Int) - 1 := IntWalk.i64_in _ (by omega)
              have HBA := Lib.hid (below_alloc hB (.cells Q.toArray 25))
              have HRA := Lib.hid (Kd.R_alloc hR (.cells Q.toArray 25))
              have HLA := Lib.hid (Kd.R_alloc hL (.cells Q.toArray 25))
              have HKA := Lib.hid (heap_alloc_new wr (.cells Q.toArray 25))
              have HPA := Lib.hid (show (wr.alloc (.cells Q.toArray 25)).rangeAt b (o + i0 * 32) (nums .u8 p) from range_below (below_alloc (Below.refl wr.heap.size wr) _) hbl r1)
              have HPQ := Lib.hid (And.intro s1 (And.intro s2 hQ))
              have HTK := Lib.hid htk
              have HM := Lib.hid (And.intro hm2 hml)
              clear hR hL hB H hC4 hrg hpr htk r1 r2 s1 s2 hpe hqe hQ hQl hQ1 hbl hj hm2 hi0
              go_wp2_with (first
                | ((with_reducible show wpList _ _ _ (Oper.mk _ (Op.load _ (.tmp 43)) _ _ _ _ :: _) _ _); (go_loud (refine wpList_load_mid rfl 25 (.tmp 43) rfl b (o + j * 32) rfl Q _ HR2.out hu rfl HIQ.out.1 ?_)))
                | ((with_reducible show wpList _ _ _ (Oper.mk _ (Op.store _ (.tmp 8) _) _ _ _ _ :: _) _ _); (go_loud (refine wpl_store_new rfl 25 (.tmp 8) (.tmp 44) rfl (nums .u8 (List.replicate 32 0)).toArray Q.toArray rfl rfl HIQ.out.2.1 HIQ.out.2.2.1 HIQ.out.2.2.2 ?_))))
              have hs1 := fun W => slice_atH W b (o + i0 * 32)
              have hs2 := fun W => slice_atH W wr.heap.size 0
              obtain ⟨W1, hW1⟩ : ∃ W, wr.alloc (.cells Q.toArray 25) = W := ⟨_, rfl⟩
              rw [hW1] at HBA HRA HLA HKA HPA ⊢
              clear hW1 jj1 hwm hwl
              have HBD := Lib.hid (below_drew (Below.refl W1.heap.size W1))
              have hbt := fun u => run_build2t (some ⟨b, o + i0 * 32, none⟩) (some ⟨wr.heap.size, 0, none⟩) 32 32 32 32 u
              have hb1 := fun A m c u => run_build1t A m c u
              have HB2 := Lib.hid (below_drew (below_alloc (Below.refl W1.heap.size W1) (.cells #[.slice (some ⟨b, o + i0 * 32, none⟩) 32 32, .slice (some ⟨wr.heap.size, 0, none⟩) 32 32] 33)))
              have HJN := Lib.hid (show Calls Tryd.prog 59 #[.slice (some ⟨W1.heap.size, 0, none⟩) 2 2] (W1.alloc (.cells #[.slice (some ⟨b, o + i0 * 32, none⟩) 32 32, .slice (some ⟨wr.heap.size, 0, none⟩) 32 32] 33)).drew fun e w' => ∃ v : Value, e = .returned v ∧ Kd.R (Kd.int .u8) 5 w' W1.heap.size (fun _ => True) v (p ++ q) ∧ Below W1.heap.size W1 w' from by
                have e1 := C_u8_range HPA.out (by rw [HPQ.out.1]; decide)
                have e2 := C_of_block (pre := []) (post := []) (k := .u8) (ys := q) (o := 0) (t := 25) (fr := (0, 0)) (w := W1) (b := wr.heap.size) (by rw [List.nil_append, List.append_nil, HPQ.out.2.2]; exact HKA.out) rfl (by rw [HPQ.out.2.1]; decide)
                have e3 := C_row2 (W := (W1.alloc (.cells #[.slice (some ⟨b, o + i0 * 32, none⟩) p.length 32, .slice (some ⟨wr.heap.size, 0, none⟩) q.length 32] 33)).drew) (heap_alloc_new W1 _) (by rw [HPQ.out.1]; exact Nat.le_refl _) (Kd.C_drew (Kd.C_alloc e1 _)) (by rw [HPQ.out.2.1]; exact Nat.le_refl _) (Kd.C_drew (Kd.C_alloc e2 _))
                rw [HPQ.out.1, HPQ.out.2.1] at e3
                refine (join10_calls (some ⟨W1.heap.size, 0, none⟩) 2 [p, q] _ e3 (by simp) (by simp [HPQ.out.1, HPQ.out.2.1])).mono ?_
                rintro e w' ⟨v, rfl, hv, hb⟩
                refine ⟨v, rfl, ?_, HB2.out.trans (Below.mono hb HB2.out.size)⟩
                have h9 := Kd.R_lower hv HB2.out.size
                simpa using h9)
              have hHeld : True := trivial
              refine wp_region_held (S := fun _ => True) (by kernel_rfl) ?_
              change wpAnyH _ _ _ _ _ _ _ _ (World.drew _)
              refine wpAnyH_take (i := 0) (oi := ({ dst := some 45, op := Op.move (Operand.tmp 3), type := 62, pos := "clash.go:26", after := #[], guard := none } : Oper)) (v := u3) rfl (by kernel_rfl) (by kernel_rfl) (by kernel_rfl) (fun _ _ _ h => h) (Or.inl ⟨by rfl, fun w hSw => by go_simp⟩) hHeld ?_
              simp only [Act.put, List.setIfInBounds_toArray, List.set_cons_zero, List.set_cons_succ]
              refine wpAnyH_take (i := 1) (oi := ({ dst := some 46, op := Op.move (Operand.tmp 4), type := 22, pos := "clash.go:26", after := #[], guard := none } : Oper)) (v := .slice (some ⟨b, o, none⟩) l c4) rfl (by kernel_rfl) (by kernel_rfl) (by kernel_rfl) (fun _ _ _ h => h) (Or.inl ⟨by rfl, fun w hSw => by go_simp⟩) hHeld ?_
              simp only [Act.put, List.setIfInBounds_toArray, List.set_cons_zero, List.set_cons_succ]
              refine wpAnyH_take (i := 2) (oi := ({ dst := some 47, op := Op.move (Operand.tmp 7), type := 3, pos := "clash.go:26", after := #[], guard := none } : Oper)) (v := .int .i64 (i0 : Int)) rfl (by kernel_rfl) (by kernel_rfl) (by kernel_rfl) (fun _ _ _ h => h) (Or.inl ⟨by rfl, fun w hSw => by go_simp⟩) hHeld ?_
              simp only [Act.put, List.setIfInBounds_toArray, List.set_cons_zero, List.set_cons_succ]
              refine wpAnyH_take (i := 3) (oi := ({ dst := some 48, op := Op.indexAddr 22 (Operand.tmp 46) (Operand.tmp 47), type := 0, pos := "clash.go:26", after := #[{ on := 1, ground := Ground.data }, { on := 2, ground := Ground.data }], guard := none } : Oper)) (v := .pointer (some ⟨b, o + i0 * 32, none⟩)) rfl (by kernel_rfl) (by kernel_rfl) (by kernel_rfl) (fun _ _ _ h => h) (Or.inl ⟨by rfl, fun w hSw => by go_simp⟩) hHeld ?_
              simp only [Act.put, List.setIfInBounds_toArray, List.set_cons_zero, List.set_cons_succ]
              refine wpAnyH_take (i := 4) (oi := ({ dst := some 49, op := Op.slice 25 (Operand.tmp 48) none none none, type := 33, pos := "clash.go:26", after := #[{ on := 3, ground := Ground.data }], guard := none } : Oper)) (v := .slice (some ⟨b, o + i0 * 32, none⟩) 32 32) rfl (by kernel_rfl) (by kernel_rfl) (by kernel_rfl) (fun _ _ _ h => h) (Or.inl ⟨by rfl, fun w hSw => by go_simp⟩) hHeld ?_
              simp only [Act.put, List.setIfInBounds_toArray, List.set_cons_zero, List.set_cons_succ]
              refine wpAnyH_take (i := 5) (oi := ({ dst := some 50, op := Op.slice 25 (Operand.tmp 8) none none none, type := 33, pos := "clash.go:26", after := #[], guard := none } : Oper)) (v := .slice (some ⟨wr.heap.size, 0, none⟩) 32 32) rfl (by kernel_rfl) (by kernel_rfl) (by kernel_rfl) (fun _ _ _ h => h) (Or.inl ⟨by rfl, fun w hSw => by go_simp⟩) hHeld ?_
              simp only [Act.put, List.setIfInBounds_toArray, List.set_cons_zero, List.set_cons_succ]
              refine wpAnyH_ready (rs := [6]) (by kernel_rfl) (by simp) ?_
              refine AllReadyH.cons (o := ({ dst := some 51, op := Op.buildSlice 62 2 #[(0, Operand.tmp 49), (1, Operand.tmp 50)], type := 62, pos := "clash.go:26", after := #[{ on := 4, ground := Ground.data }, { on := 5, ground := Ground.data }], guard := none } : Oper)) rfl (fun K hK => ?_) AllReadyH.nil
              go_simp
              refine hK.out _ _ (trivial) (fun hHeld => ?_)
              clear hK K
              try simp only [Act.put, List.setIfInBounds_toArray, List.set_cons_zero, List.set_cons_succ]
              refine wpAnyH_ready (rs := [7]) (by kernel_rfl) (by simp) ?_
              refine AllReadyH.cons (o := ({ dst := some 52, op := Op.call { callee := Callee.value (Operand.func 59), args := #[Operand.tmp 51], argTypes := #[62] }, type := 33, pos := "clash.go:26", after := #[{ on := 6, ground := Ground.data }], guard := none } : Oper)) rfl (fun K hK => ?_) AllReadyH.nil
              go_simp
              (with_reducible refine HJN.out.mono ?_)
              rintro e w2 ⟨v2, rfl, hv2, hb2⟩
              have HV2 := Lib.hid hv2
              have HBV := Lib.hid hb2
              obtain ⟨Aj, cj, ej⟩ := Kd.R_slice hv2
              rw [List.length_append, HPQ.out.1, HPQ.out.2.1] at ej
              subst ej
              clear hv2 hb2
              go_wp2_with fail
              refine hK.out _ _ (trivial) (fun hHeld => ?_)
              clear hK K
              try simp only [Act.put, List.setIfInBounds_toArray, List.set_cons_zero, List.set_cons_succ]
              have HMM := Lib.hid (text_M HV2.out HBA.out.size)
              have HNN := Lib.hid (ne_own9 HRA.out)
              have HR3 := Lib.hid (Kd.R_below HRA.out HBV.out)
              have HL3 := Lib.hid (Kd.R_below HLA.out HBV.out)
              have HB3 := Lib.hid (HBA.out.trans (Below.mono HBV.out HBA.out.size))
              have HLT := Lib.hid (show ((textsAt yss k2 ++ (rowT (lev xs k2)).take m).length + 1) * 24 ≤ 140737488355328 by
                rw [List.length_append, List.length_take]
                have := HTL.out
                have := HM.out.1
                omega)
              refine wpAnyH_ready (rs := [8]) (by kernel_rfl) (by simp) ?_
              refine AllReadyH.cons (o := ({ dst := some 53, op := Op.buildSlice 62 1 #[(0, Operand.tmp 52)], type := 62, pos := "clash.go:26", after := #[{ on := 7, ground := Ground.data }], guard := none } : Oper)) rfl (fun K hK => ?_) AllReadyH.nil
              go_simp
              refine hK.out _ _ (trivial) (fun hHeld => ?_)
              clear hK K
              try simp only [Act.put, List.setIfInBounds_toArray, List.set_cons_zero, List.set_cons_succ]
              refine wpAnyH_ready (rs := [9]) (by kernel_rfl) (by simp) ?_
              refine AllReadyH.cons (o := ({ dst := some 54, op := Op.call { callee := Callee.builtin Builtin.append, args := #[Operand.tmp 45, Operand.tmp 53], argTypes := #[62, 62] }, type := 62, pos := "clash.go:26", after := #[{ on := 0, ground := Ground.data }, { on := 8, ground := Ground.data }, { on := 7, ground := Ground.chain }], guard := none } : Oper)) rfl (fun K hK => ?_) AllReadyH.nil
              refine Kd.R_append_step kBs (W := w2) (w0 := w) w.heap.size (by rfl) (.tmp 45) (.tmp 53) 62 33 (.slice none 0 0) 24 (by rfl) Tryd.underlying62 infoBs rfl (by decide) (by decide) u3 (textsAt yss k2 ++ (rowT (lev xs k2)).take m) (p ++ q) [.slice Aj (32 + 32) cj] (fun _ => True) (fun k => W1.heap.size ≤ k) (by rfl) (by rfl) HMM.out HNN.out (fun _ _ => trivial) HR3.out HB3.out HB3.out.size HLT.out ?_
              intro v4 w4 ho hb hg hat
              have HR4 := Lib.hid ho
              have HB4 := Lib.hid hb
              have HL4 := Lib.hid (Kd.R_over HL3.out HR3.out ty_a hg)
              clear ho hb hg hat
              refine hK.out _ _ (trivial) (fun hHeld => ?_)
              clear hK K
              try simp only [Act.put, List.setIfInBounds_toArray, List.set_cons_zero, List.set_cons_succ]
              refine wpAnyH_take (i := 10) (oi := ({ dst := some 3, op := Op.assign (Operand.tmp 54), type := 62, pos := "clash.go:26", after := #[{ on := 9, ground := Ground.data }, { on := 9, ground := Ground.chain }, { on := 0, ground := Ground.phase }, { on := 1, ground := Ground.phase }, { on := 2, ground := Ground.phase }, { on := 3, ground := Ground.phase }, { on := 4, ground := Ground.phase }, { on := 5, ground := Ground.phase }, { on := 6, ground := Ground.phase }, { on := 7, ground := Ground.phase }, { on := 8, ground := Ground.phase }, { on := 9, ground := Ground.phase }], guard := none } : Oper)) (v := v4) rfl (by kernel_rfl) (by kernel_rfl) (by kernel_rfl) (fun _ _ _ h => h) (Or.inl ⟨by rfl, fun w hSw => by go_simp⟩) hHeld ?_
              simp only [Act.put, List.setIfInBounds_toArray, List.set_cons_zero, List.set_cons_succ]
              refine wpAnyH_done (by kernel_rfl) ?_ _
              clear hHeld hs1 hs2 hbt hb1
              go_wp2_with fail
              have hw2 : wrap64 ((i0 : Int) + 2) = ((2 * (m + 1) : Nat) : Int) := by rw [← HI0.out]; exact step2 (by have := HM.out.1; omega)
              try rw [hw2]
              go_roundw
              case rel => exact ⟨m + 1, (by first | rfl | (have h1 := HI0.out; congr 1; omega)), Lib.hid ⟨by have h1 := HM.out.2; have h2 := HI0.out; omega, by rw [HTK.out, ← List.append_assoc]; exact HR4.out, HL4.out, HB4.out⟩⟩
              case measure =>
                have h1 := HI0.out
                simp only [intOf]
                omega
            · have gi : ¬ (i0 : Int) < (l : Int) := by omega
              have htk : (rowT (lev xs k2)).take m = rowT (lev xs k2) := List.take_of_length_le (by rw [rowT_len, HLL.out]; omega)
              rw [htk] at hR
              have HR3 := Lib.hid hR
              have HL3 := Lib.hid hL
              have HB3 := Lib.hid hB
              have hC4 := (Kd.R_reads' hL).2.2
              rw [HLL.out] at hC4
              have hc4 := (Kd.R_reads' hL).2.1
              have HAB := Lib.hid (above_calls A4 l c4 (lev xs k2) wr HLL.out.symm hC4 hc4 (by omega) (lev_Hs HX.out.2.1 k2) (HK.out.below hB (Nat.le_refl _)))
              clear hR hL hB H htk hC4 hc4 hi0 hm2
              go_wp2_with fail
              refine HAB.out.mono ?_
              rintro e w6 ⟨v6, rfl, hv6, hb6⟩
              obtain ⟨A6, c6, rfl⟩ := Kd.R_slice hv6
              have hl6 : (aboveP (lev xs k2)).length = wideP n (k2 + 1) := by rw [aboveP_len, HLL.out, ← HWL.out]; rfl
              obtain ⟨l6, hl6b⟩ : ∃ l6, wideP n (k2 + 1) = l6 := ⟨_, rfl⟩
              have hl6c : l6 = (l + 1) / 2 := by rw [← hl6b, ← HWL.out]; rfl
              rw [hl6, hl6b] at hv6
              rw [hl6, hl6b]
              have HV6 := Lib.hid (And.intro (Kd.R_lower hv6 HB3.out.size) (And.intro hb6 (And.intro hl6b hl6c)))
              clear hv6 hb6 hl6 hl6b hl6c
              go_wp2_with fail
              go_roundw
              case rel => exact ⟨k2 + 1, l6, A6, c6, rfl, Lib.hid ⟨hkd2, HV6.out.2.2.1, by rw [textsAt, HX.out.2.2]; exact Kd.R_below HR3.out HV6.out.2.1, HV6.out.1, HB3.out.trans (Below.mono HV6.out.2.1 HB3.out.size)⟩⟩
              case measure =>
                have h1 := HV6.out.2.2.2
                simp only [lenV9]
                omega
        · have g1 : ¬ (1 : Int) < (l : Int) := by omega
          have he : k2 = d := by
            rcases Nat.lt_or_ge k2 d with h | h
            · have := (depth_wide HD.out.1).2 k2 h
              have h9 := HWL.out
              omega
            · omega
          subst he
          go_wp2_with fail
          go_ret
          exact ⟨_, rfl, by rw [HD.out.2]; exact HR2.out, HB2.out⟩
end Go.Proofs.YtlmcdkjobdcflaaDoor.Hand


/- A claim's texts (clash.Claim): the plain form, and walked. -/
namespace Go.Proofs.YtlmcdkjobdcflaaDoor.Hand
open Go Go.RowKit Go.Proofs.YtlmcdkjobdcflaaDoor.Plain Go.Proofs.YtlmcdkjobdcflaaDoor.PAll Go.Proofs.YtlmcdkjobdcflaaDoorW.PrintWords Go.Proofs.YtlmcdkjobdcflaaDoorW.PrintLast Go.Proofs.YtlmcdkjobdcflaaDoorW.PrintMore
set_option linter.unusedVariables false
set_option linter.unusedSimpArgs false
set_option maxRecDepth 100000
attribute [local go_sem ↓] Go.wp_at_zero Go.wp_at_succ
attribute [-go_sem] loadVar storeVar Instr.buildSlice
/-- The texts on the way up. -/
def stepT (p : Nat) (node h : List Int) : List Int := if p % 2 = 1 then h ++ node else node ++ h
def claimL : List (List Int) → Nat → List Int → List (List Int)
  | [], _, _ => []
  | h :: hs, p, node => stepT p node h :: claimL hs (p / 2) (twiceP (stepT p node h))
def claimP (cnt idx : Int) (xs : List (List Int)) (text : List Int) : List (List Int) := if brightP cnt idx xs.length ≠ 0 then [] else text :: claimL xs idx.toNat (twiceP text)
theorem claimL_cons {xs : List (List Int)} {k : Nat} (h : k < xs.length) (p : Nat) (node : List Int) : claimL (xs.drop k) p node = stepT p node (rdH xs k) :: claimL (xs.drop (k + 1)) (p / 2) (twiceP (stepT p node (rdH xs k))) := by
  rw [List.drop_eq_getElem_cons h, claimL, rdH_eq h]
theorem claimL_nil {xs : List (List Int)} {k : Nat} (h : xs.length ≤ k) (p : Nat) (node : List Int) : claimL (xs.drop k) p node = [] := by
  rw [List.drop_of_length_le h, claimL]
theorem row_lit1 {W : World} {base : Nat} {v : Value} {ys : List Int} (hv : Kd.R (Kd.int .u8) 5 W base (fun _ => True) v ys) (hb : base ≤ W.heap.size) : Kd.R kBs 33 (W.alloc (.cells #[v] 33)) base (fun _ => True) (.slice (some ⟨W.heap.size, 0, none⟩) 1 1) [ys] :=
  ⟨fun _ _ => trivial, OwnRow.lit W base (ps := [ys]) (inner := [v]) (Reps.one ⟨v, rfl, Kd.R_alloc (Kd.R_mono (Kd.R_bound hv) (fun k h => ⟨trivial, fun e => by
    have h9 := h.2.2.1
    simp [Value.ownBlock] at e
    omega⟩)) _⟩ (Reps.none _ _)) hb (by simp)⟩
theorem shr_bit {i : Nat} (k : Nat) (hi : i < 65536) : bits .and .i64 ((i : Int) / 2 ^ min k 64) 1 = ((i / 2 ^ k % 2 : Nat) : Int) := by
  have e : (i : Int) / 2 ^ min k 64 = ((i / 2 ^ k : Nat) : Int) := by
    rcases Nat.le_total k 64 with h | h
    · rw [Nat.min_eq_left h]
      simp
    · rw [Nat.min_eq_right h]
      have h1 : i / 2 ^ k = 0 := Nat.div_eq_of_lt (Nat.lt_of_lt_of_le (Nat.lt_of_lt_of_le hi (by decide : 65536 ≤ 2 ^ 64)) (Nat.pow_le_pow_right (by decide) h))
      have h2 : i / 2 ^ 64 = 0 := Nat.div_eq_of_lt (Nat.lt_of_lt_of_le hi (by decide))
      rw [h1]
      omega
  rw [e]
  obtain ⟨x, hx⟩ : ∃ x, i / 2 ^ k = x := ⟨_, rfl⟩
  have hx2 : x < 65536 := by rw [← hx]; exact Nat.lt_of_le_of_lt (Nat.div_le_self _ _) hi
  rw [hx]
  show IntKind.i64.wrap ((BitVec.ofInt 64 (x : Int) &&& BitVec.ofInt 64 1).toNat : Int) = _
  have h1 : (BitVec.ofInt 64 1).toNat = 1 := by decide
  have h2 : (BitVec.ofInt 64 (x : Int)).toNat = x := by
    rw [BitVec.ofInt_natCast, BitVec.toNat_ofNat]; exact Nat.mod_eq_of_lt (by omega)
  rw [BitVec.toNat_and, h1, h2, Nat.and_one_is_mod, IntKind.wrap_i64]
  omega
theorem R_text {U W W2 : World} {base : Nat} {α : Type} {d : Kd α} {e : Nat} {ok : Nat → Prop} {v v9 : Value} {out : List α} {tx : List Int} (hv : Kd.R (Kd.int .u8) 5 W U.heap.size (fun _ => True) v tx) (ho : Kd.R d e U base ok v9 out) (hg : W.grownBy W2 v9.ownBlock) : Kd.R (Kd.int .u8) 5 W2 U.heap.size (fun _ => True) v tx :=
  Kd.R_mono (Kd.R_grown (Kd.R_bound hv) hg (fun k h e9 => by
    have h1 := Kd.R_lt ho k e9.symm
    have h2 := h.2.1
    omega)) (fun _ _ => trivial)
set_option maxHeartbeats 8000000 in
theorem claim10_calls (A0 : Option Addr) (m0 c0 : Nat) (text : List Int) (cnt idx : Int) (A : Option Addr) (m c : Nat) (xs : List (List Int)) (w : World) (hm0 : m0 = text.length) (ht : Kd.C (Kd.int .u8) w A0 text.length text) (hc0 : text.length ≤ c0) (htb : (∀ x ∈ text, 0 ≤ x ∧ x < 256) ∧ text.length ≤ 900000) (hm : m = xs.length) (hr : Kd.C kH w A m xs) (hc : m ≤ c) (hm2 : m ≤ 1000) (hH : Hs xs) (hK : KT w)
    (h0 : -9223372036854775808 ≤ cnt) (h1 : cnt ≤ 9223372036854775807) :
    Calls Tryd.prog 46 #[.slice A0 m0 c0, bV cnt idx A m c] w fun e w' => ∃ v, e = .returned v ∧ Kd.R kBs 33 w' w.heap.size (fun _ => True) v (claimP cnt idx xs text) ∧ Below w.heap.size w w' := by
  have hmx := Kd.C_max hr
  have HRI := Lib.hid (fun u => bright_calls cnt idx A m c u hmx h0 h1)
  have hk := heap_alloc_new w (.cells #[.int .i64 cnt, .int .i64 idx, .slice A m c] 41)
  have HB0 := Lib.hid (below_alloc (Below.refl w.heap.size w) (.cells #[.int .i64 cnt, .int .i64 idx, .slice A m c] 41))
  obtain ⟨W0, hW0⟩ : ∃ W, w.alloc (.cells #[.int .i64 cnt, .int .i64 idx, .slice A m c] 41) = W := ⟨_, rfl⟩
  rw [hW0] at hk HB0
  have HW0 := Lib.hid hW0
  have HBK := Lib.hid hk
  have HI9 := Lib.hid (And.intro Tryd.underlying41 (zero_of_info infoB9).2)
  unfold bV at HRI ⊢
  obtain ⟨e0, he0⟩ : ∃ e, brightP cnt idx m = e := ⟨_, rfl⟩
  rw [he0] at HRI
  have HE0 := Lib.hid he0
  have HCP := Lib.hid (show claimP cnt idx xs text = if e0 ≠ 0 then [] else text :: claimL xs idx.toNat (twiceP text) from by unfold claimP; rw [← hm, he0])
  have HM := Lib.hid hm
  have HR := Lib.hid hr
  have HHX := Lib.hid hH
  have HK := Lib.hid hK
  have HT := Lib.hid (And.intro ht (And.intro hc0 htb))
  clear hW0 hk he0 hm hr hH hK ht hc0 htb
  by_cases hok : e0 = 0
  · subst hok
    have hgood : (1 ≤ cnt ∧ cnt ≤ 65536) ∧ (0 ≤ idx ∧ idx < cnt) := by
      have h := HE0.out
      unfold brightP at h
      by_cases hb : cnt < 1 ∨ 65536 < cnt ∨ idx < 0 ∨ cnt ≤ idx
      · rw [if_pos hb] at h
        exact absurd h (by decide)
      · omega
    obtain ⟨i, rfl⟩ : ∃ i : Nat, idx = (i : Int) := ⟨idx.toNat, by omega⟩
    have HGD := Lib.hid hgood
    have HCLN := Lib.hid (fun (u : World) (hu : Below w.heap.size w u) => clone_calls A0 m0 c0 text u hm0 (Kd.C_below HT.out.1 hu) HT.out.2.1 (by have := HT.out.2.2.2; omega))
    have HM0 := Lib.hid hm0
    clear hgood h0 h1 hm0
    go_enter Tryd.func46, Tryd.ntmps46
    go_wp2_with ((with_reducible show wpList _ _ _ (Oper.mk _ (Op.load _ (.tmp 3)) _ _ _ _ :: _) _ _); rw [HW0.out]; (go_loud (refine wpList_load_row rfl 41 (.tmp 3) rfl w.heap.size rfl 41 #[.int .i64 cnt, .int .i64 (i : Int), .slice A m c] (0, 0) _ HBK.out HI9.out.1 rfl HI9.out.2 ?_)))
    refine (HRI.out _).mono ?_
    rintro e w1 ⟨rfl, hb1⟩
    have HB1 := Lib.hid (HB0.out.trans (Below.mono hb1 HB0.out.size))
    have HBK1 := Lib.hid ((hb1.block _ (blk_lt HBK.out)).trans HBK.out)
    clear hb1
    go_wp2_with fail
    refine (HCLN.out _ HB1.out).mono ?_
    rintro e w2 ⟨v2, rfl, hv2, hb2⟩
    have HR2 := Lib.hid (row_lit1 (base := w.heap.size) (Kd.R_lower hv2 HB1.out.size) (Nat.le_trans HB1.out.size hb2.size))
    have HB2 := Lib.hid (HB1.out.trans (Below.mono hb2 HB1.out.size))
    have HBK2 := Lib.hid ((hb2.block _ (blk_lt HBK1.out)).trans HBK1.out)
    obtain ⟨A2, c2, rfl⟩ := Kd.R_slice hv2
    clear hv2 hb2
    obtain ⟨q0, hq0⟩ : ∃ q, text.length = q := ⟨_, rfl⟩
    rw [hq0] at HR2 ⊢
    have HQ0 := Lib.hid hq0
    clear hq0
    have hb1 := fun A m c u => run_build1t A m c u
    have HB3 := Lib.hid (below_alloc HB2.out (.cells #[.slice A2 q0 c2] 33))
    have HBK3 := Lib.hid (blk_alloc HBK2.out (.cells #[.slice A2 q0 c2] 33))
    have HTW := Lib.hid (show ∀ (u : World), Below w.heap.size w u → Calls Tryd.prog 50 #[.slice (some ⟨u.heap.size, 0, none⟩) 1 1] (u.alloc (.cells #[.slice A0 q0 c0] 33)) fun e w' => e = .returned (.agg (nums .u8 (twiceP text)).toArray) ∧ Below (u.alloc (.cells #[.slice A0 q0 c0] 33)).heap.size (u.alloc (.cells #[.slice A0 q0 c0] 33)) w' from fun u hu => by
      have h9 := twice_calls (some ⟨u.heap.size, 0, none⟩) 1 1 [text] (u.alloc (.cells #[.slice A0 q0 c0] 33)) rfl (C_one (A := A0) (c := c0) (ys := text) (by rw [HQ0.out]; exact heap_alloc_new u _) HT.out.2.1 (Kd.C_alloc (Kd.C_below HT.out.1 hu) _)) (by simpa using HT.out.2.2.1) (by simpa using HT.out.2.2.2) (by decide) (HK.out.below (below_alloc hu _) (Nat.le_refl _))
      rw [show [text].flatten = text by simp] at h9
      exact h9)
    obtain rfl : m0 = q0 := by rw [← HQ0.out]; exact HM0.out
    go_wp2_with fail
    obtain ⟨W3, hW3⟩ : ∃ W, w2.alloc (.cells #[.slice A2 m0 c2] 33) = W := ⟨_, rfl⟩
    rw [hW3] at HR2 HB3 HBK3
    have HW3 := Lib.hid hW3
    rw [hW3]
    clear hW3
    have hsz3 : W3.heap.size = w2.heap.size + 1 := by rw [← HW3.out]; exact Array.size_push _
    have HT3 := HTW.out W3 HB3.out
    rw [hsz3] at HT3
    clear hsz3
    refine HT3.mono ?_
    rintro e w4 ⟨rfl, hb4⟩
    have HB4 := Lib.hid (HB3.out.trans (Below.mono ((below_alloc (Below.refl W3.heap.size W3) (.cells #[.slice A0 m0 c0] 33)).trans (Below.mono hb4 (below_alloc (Below.refl W3.heap.size W3) (.cells #[.slice A0 m0 c0] 33)).size)) HB3.out.size))
    have HR4 := Lib.hid (Kd.R_below (Kd.R_alloc HR2.out (.cells #[.slice A0 m0 c0] 33)) hb4)
    have HBK4 := Lib.hid ((hb4.block _ (blk_lt (blk_alloc HBK3.out _))).trans (blk_alloc HBK3.out (.cells #[.slice A0 m0 c0] 33)))
    clear hb4 hb1 HT3
    have hT1 := nums_one .u8 (twiceP text)
    have hTl : (nums .u8 (twiceP text)).length = 32 := by rw [nums_len]; exact twiceP_len _
    have HF := Lib.hid (show ∀ X : List Int, X.length = 32 → (Tryd.prog.info? 25).map (·.size) = some (nums .u8 X).length ∧ (Tryd.prog.info? 25).map (·.size) = some (nums .u8 X).toArray.size ∧ (nums .u8 X).toArray.size = 32 ∧ (nums .u8 X).toArray.all (·.oneCell') = true from fun X h => ⟨by rw [nums_len, h]; exact (zero_of_info infoHash).2, by rw [List.size_toArray, nums_len, h]; exact (zero_of_info infoHash).2, by rw [List.size_toArray, nums_len, h], all_oneCell_toArray (nums_one _ _)⟩)
    have hzH := (zero_of_info infoHash).1
    obtain ⟨Z, hZ⟩ : ∃ X, (nums .u8 (List.replicate 32 0)).toArray = X := ⟨_, rfl⟩
    have hZs : Z.size = 32 := by rw [← hZ]; rfl
    rw [hZ] at hzH
    have HZS := Lib.hid hZs
    clear hZ hZs
    have HI4 := Lib.hid (HF.out (twiceP text) (twiceP_len _))
    have HS4 := Lib.hid (show Z.size = (nums .u8 (twiceP text)).toArray.size from by rw [HZS.out, HI4.out.2.2.1])
    have HK5 := Lib.hid (heap_alloc_new w4 (.cells (nums .u8 (twiceP text)).toArray 25))
    have HB5 := Lib.hid (below_alloc HB4.out (.cells (nums .u8 (twiceP text)).toArray 25))
    have HR5 := Lib.hid (Kd.R_alloc HR4.out (.cells (nums .u8 (twiceP text)).toArray 25))
    have HBK5 := Lib.hid (blk_alloc HBK4.out (.cells (nums .u8 (twiceP text)).toArray 25))
    clear hT1 hTl
    have hl5 := run_load_hs (w4.alloc (.cells (nums .u8 (twiceP text)).toArray 25)) ⟨w.heap.size, 2, none⟩ _ ((blk_cell HBK5.out 2).trans rfl)
    go_wp2_with ((with_reducible show wpList _ _ _ (Oper.mk _ (Op.store _ (.tmp 6) _) _ _ _ _ :: _) _ _); (go_loud (refine wpl_store_new rfl 25 (.tmp 6) (.tmp 18) rfl Z (nums .u8 (twiceP text)).toArray rfl rfl HI4.out.2.1 HS4.out HI4.out.2.2.2 ?_)))
    clear hl5
    have HNW := Lib.hid (show w.heap.size < w4.heap.size from blk_lt HBK4.out)
    go_loopw [5, 22] (fun v vk wr => ∃ (k : Nat) (node : List Int) (out : List (List Int)), vk = .int .i64 (k : Int) ∧ Hid (k ≤ m ∧ (node.length = 32 ∧ ∀ z ∈ node, 0 ≤ z ∧ z < 256) ∧ Kd.R kBs 33 wr w.heap.size (fun _ => True) v out ∧ (wr.heap[w4.heap.size]? = some (.cells (nums .u8 node).toArray 25 (0, 0)) ∧ wr.heap[w.heap.size]? = some (.cells #[.int .i64 cnt, .int .i64 (i : Int), .slice A m c] 41 (0, 0)) ∧ Below w.heap.size w wr) ∧ out.length = k + 1 ∧ out ++ claimL (xs.drop k) (i / 2 ^ k) node = claimP cnt (i : Int) xs text)) (fun _ vk _ => m + 1 - (intOf vk).toNat)
    case atStart => exact ⟨0, twiceP text, [text], rfl, Lib.hid ⟨Nat.zero_le _, ⟨twiceP_len _, twiceP_bytes _⟩, HR5.out, ⟨HK5.out, HBK5.out, HB5.out⟩, rfl, by rw [HCP.out, if_neg (by decide), List.drop_zero, Nat.pow_zero, Nat.div_one, Int.toNat_natCast]; rfl⟩⟩
    case round =>
      obtain ⟨k, node, out, rfl, H⟩ := hrel
      by_cases hlt : k < m
      · obtain ⟨hkm, hnode, hRo, ⟨hN, hB, hBw⟩, hol, heq⟩ := H.out
        have hCw := Kd.C_below HR.out hBw
        obtain ⟨b, o, rfl, hbl, hrg⟩ := C_hash (w := wr) (A := A) (xs := xs) (by rw [← HM.out]; exact hCw) (by rw [← HM.out]; omega)
        have r1 := (hrg k (by rw [← HM.out]; exact hlt)).1
        rw [claimL_cons (by rw [← HM.out]; exact hlt)] at heq
        have hhh := HHX.out.any k
        obtain ⟨hh, hhe⟩ : ∃ x, rdH xs k = x := ⟨_, rfl⟩
        rw [hhe] at r1 hhh heq
        have hdiv : i / 2 ^ k / 2 = i / 2 ^ (k + 1) := by rw [Nat.pow_succ, Nat.div_div_eq_div_mul]
        rw [hdiv] at heq
        obtain ⟨pb, hpb⟩ : ∃ x, i / 2 ^ k = x := ⟨_, rfl⟩
        have HPB := Lib.hid hpb
        rw [hpb] at heq
        have HIH := Lib.hid (HF.out hh hhh.1)
        have HIN := Lib.hid (HF.out node hnode.1)
        have HSZ := Lib.hid (show Z.size = (nums .u8 hh).toArray.size from by rw [HZS.out, HIH.out.2.2.1])
        have HRG := Lib.hid r1
        have hu := Tryd.underlying25
        have HBA := Lib.hid (below_alloc hBw (.cells (nums .u8 hh).toArray 25))
        have HKA := Lib.hid (heap_alloc_new wr (.cells (nums .u8 hh).toArray 25))
        have HNA := Lib.hid (blk_alloc hN (.cells (nums .u8 hh).toArray 25))
        have HBRA := Lib.hid (blk_alloc hB (.cells (nums .u8 hh).toArray 25))
        have HRA := Lib.hid (Kd.R_alloc hRo (.cells (nums .u8 hh).toArray 25))
        have HEQ := Lib.hid heq
        have HNUM := Lib.hid (And.intro hnode (And.intro hhh hol))
        have gk : (k : Int) < (m : Int) := by omega
        have gk0 : (0 : Int) ≤ (k : Int) := by omega
        clear hkm hnode hRo hN hB hBw hol heq H hCw hrg r1 hbl hhh hhe hdiv hpb
        go_wp2_with (first
          | ((with_reducible show wpList _ _ _ (Oper.mk _ (Op.load _ (.tmp 25)) _ _ _ _ :: _) _ _); (go_loud (refine wpList_load_mid rfl 25 (.tmp 25) rfl b (o + k * 32) rfl (nums .u8 hh) _ HRG.out hu rfl HIH.out.1 ?_)))
          | ((with_reducible show wpList _ _ _ (Oper.mk _ (Op.store _ (.tmp 8) _) _ _ _ _ :: _) _ _); (go_loud (refine wpl_store_new rfl 25 (.tmp 8) (.tmp 26) rfl Z (nums .u8 hh).toArray rfl rfl HIH.out.2.1 HSZ.out HIH.out.2.2.2 ?_))))
        obtain ⟨W1, hW1⟩ : ∃ W, wr.alloc (.cells (nums .u8 hh).toArray 25) = W := ⟨_, rfl⟩
        rw [hW1] at HBA HKA HNA HBRA HRA ⊢
        clear hW1
        have HJN := Lib.hid (show ∀ (u : World) (ga gb : Nat) (p q : List Int), p.length = 32 → q.length = 32 → u.heap[ga]? = some (.cells (nums .u8 p).toArray 25 (0, 0)) → u.heap[gb]? = some (.cells (nums .u8 q).toArray 25 (0, 0)) → Calls Tryd.prog 59 #[.slice (some ⟨u.heap.size, 0, none⟩) 2 2] (u.alloc (.cells #[.slice (some ⟨ga, 0, none⟩) 32 32, .slice (some ⟨gb, 0, none⟩) 32 32] 33)).drew fun e w' => ∃ A c, e = .returned (.slice A 64 c) ∧ Kd.R (Kd.int .u8) 5 w' u.heap.size (fun _ => True) (.slice A 64 c) (p ++ q) ∧ Below u.heap.size u w' from by
          intro u ga gb p q hp hq hga hgb
          have hbu := below_drew (below_alloc (Below.refl u.heap.size u) (.cells #[.slice (some ⟨ga, 0, none⟩) 32 32, .slice (some ⟨gb, 0, none⟩) 32 32] 33))
          have e1 := C_of_block (pre := []) (post := []) (k := .u8) (ys := p) (o := 0) (t := 25) (fr := (0, 0)) (w := u) (b := ga) (by rw [List.nil_append, List.append_nil]; exact hga) rfl (by rw [hp]; decide)
          have e2 := C_of_block (pre := []) (post := []) (k := .u8) (ys := q) (o := 0) (t := 25) (fr := (0, 0)) (w := u) (b := gb) (by rw [List.nil_append, List.append_nil]; exact hgb) rfl (by rw [hq]; decide)
          have e3 := C_row2 (W := (u.alloc (.cells #[.slice (some ⟨ga, 0, none⟩) p.length 32, .slice (some ⟨gb, 0, none⟩) q.length 32] 33)).drew) (heap_alloc_new u _) (by rw [hp]; exact Nat.le_refl _) (Kd.C_drew (Kd.C_alloc e1 _)) (by rw [hq]; exact Nat.le_refl _) (Kd.C_drew (Kd.C_alloc e2 _))
          rw [hp, hq] at e3
          refine (join10_calls (some ⟨u.heap.size, 0, none⟩) 2 [p, q] _ e3 (by simp) (by simp [hp, hq])).mono ?_
          rintro e w' ⟨v, rfl, hv, hb⟩
          obtain ⟨A, c, rfl⟩ := Kd.R_slice hv
          have hl : ([p, q] : List (List Int)).flatten.length = 64 := by simp [hp, hq]
          have h9 := Kd.R_lower hv hbu.size
          rw [hl] at h9 ⊢
          exact ⟨A, c, rfl, by simpa using h9, hbu.trans (Below.mono hb hbu.size)⟩)
        have hs1 := fun W g => slice_atH W g 0
        have hbt := fun ga gb u => run_build2t (some ⟨ga, 0, none⟩) (some ⟨gb, 0, none⟩) 32 32 32 32 u
        have hHeld : True := trivial
        refine wp_region_held (S := fun _ => True) (by kernel_rfl) ?_
        change wpAnyH _ _ _ _ _ _ _ _ (World.drew _)
        refine wpAnyH_take (i := 0) (oi := ({ dst := some 27, op := Op.slice 25 (Operand.tmp 6) none none none, type := 33, pos := "clash.go:41", after := #[], guard := none } : Oper)) (v := .slice (some ⟨w4.heap.size, 0, none⟩) 32 32) rfl (by kernel_rfl) (by kernel_rfl) (by kernel_rfl) (fun _ _ _ h => h) (Or.inl ⟨by rfl, fun w hSw => by go_simp⟩) hHeld ?_
        simp only [Act.put, List.setIfInBounds_toArray, List.set_cons_zero, List.set_cons_succ]
        refine wpAnyH_take (i := 1) (oi := ({ dst := some 28, op := Op.slice 25 (Operand.tmp 8) none none none, type := 33, pos := "clash.go:41", after := #[], guard := none } : Oper)) (v := .slice (some ⟨wr.heap.size, 0, none⟩) 32 32) rfl (by kernel_rfl) (by kernel_rfl) (by kernel_rfl) (fun _ _ _ h => h) (Or.inl ⟨by rfl, fun w hSw => by go_simp⟩) hHeld ?_
        simp only [Act.put, List.setIfInBounds_toArray, List.set_cons_zero, List.set_cons_succ]
        refine wpAnyH_ready (rs := [2]) (by kernel_rfl) (by simp) ?_
        refine AllReadyH.cons (o := ({ dst := some 29, op := Op.buildSlice 62 2 #[(0, Operand.tmp 27), (1, Operand.tmp 28)], type := 62, pos := "clash.go:41", after := #[{ on := 0, ground := Ground.data }, { on := 1, ground := Ground.data }], guard := none } : Oper)) rfl (fun K hK => ?_) AllReadyH.nil
        go_simp
        refine hK.out _ _ (trivial) (fun hHeld => ?_)
        clear hK K
        try simp only [Act.put, List.setIfInBounds_toArray, List.set_cons_zero, List.set_cons_succ]
        refine wpAnyH_ready (rs := [3]) (by kernel_rfl) (by simp) ?_
        refine AllReadyH.cons (o := ({ dst := some 30, op := Op.call { callee := Callee.value (Operand.func 59), args := #[Operand.tmp 29], argTypes := #[62] }, type := 33, pos := "clash.go:41", after := #[{ on := 2, ground := Ground.data }], guard := none } : Oper)) rfl (fun K hK => ?_) AllReadyH.nil
        go_simp
        (with_reducible refine (HJN.out W1 _ _ node hh HNUM.out.1.1 HNUM.out.2.1.1 HNA.out HKA.out).mono ?_)
        rintro e w5 ⟨A5, c5, rfl, hv5, hb5⟩
        have HV5 := Lib.hid hv5
        have HB6 := Lib.hid hb5
        clear hv5 hb5
        go_wp2_with fail
        refine hK.out _ _ (trivial) (fun hHeld => ?_)
        clear hK K
        try simp only [Act.put, List.setIfInBounds_toArray, List.set_cons_zero, List.set_cons_succ]
        refine wpAnyH_take (i := 4) (oi := ({ dst := some 9, op := Op.assign (Operand.tmp 30), type := 33, pos := "clash.go:41", after := #[{ on := 3, ground := Ground.data }, { on := 3, ground := Ground.chain }, { on := 0, ground := Ground.phase }, { on := 1, ground := Ground.phase }, { on := 2, ground := Ground.phase }, { on := 3, ground := Ground.phase }], guard := none } : Oper)) (v := .slice A5 64 c5) rfl (by kernel_rfl) (by kernel_rfl) (by kernel_rfl) (fun _ _ _ h => h) (Or.inl ⟨by rfl, fun w hSw => by go_simp⟩) hHeld ?_
        simp only [Act.put, List.setIfInBounds_toArray, List.set_cons_zero, List.set_cons_succ]
        refine wpAnyH_done (by kernel_rfl) ?_ _
        clear hHeld
        have hli := run_load_i64 w5 ⟨w.heap.size, 1, none⟩ _ ((blk_cell ((HB6.out.block _ (blk_lt HBRA.out)).trans HBRA.out) 1).trans rfl)
        have hpbm := shr_bit (i := i) k (by have := HGD.out; omega)
        rw [HPB.out] at hpbm
        have HN5 := Lib.hid ((HB6.out.block _ (blk_lt HNA.out)).trans HNA.out)
        have HH5 := Lib.hid ((HB6.out.block _ (blk_lt HKA.out)).trans HKA.out)
        have HK5b := Lib.hid ((HB6.out.block _ (blk_lt HBRA.out)).trans HBRA.out)
        by_cases od : pb % 2 = 1
        · rw [od] at hpbm
          have HST9 : stepT pb node hh = hh ++ node := by unfold stepT; rw [if_pos od]
          go_wp2_with fail
          have HB5w := Lib.hid (HBA.out.trans (Below.mono HB6.out HBA.out.size))
          have HR5w := Lib.hid (Kd.R_below HRA.out HB6.out)
          have hHeld : True := trivial
          refine wp_region_held (S := fun _ => True) (by kernel_rfl) ?_
          change wpAnyH _ _ _ _ _ _ _ _ (World.drew _)
          refine wpAnyH_take (i := 0) (oi := ({ dst := some 37, op := Op.slice 25 (Operand.tmp 8) none none none, type := 33, pos := "clash.go:43", after := #[], guard := none } : Oper)) (v := .slice (some ⟨wr.heap.size, 0, none⟩) 32 32) rfl (by kernel_rfl) (by kernel_rfl) (by kernel_rfl) (fun _ _ _ h => h) (Or.inl ⟨by rfl, fun w hSw => by go_simp⟩) hHeld ?_
          simp only [Act.put, List.setIfInBounds_toArray, List.set_cons_zero, List.set_cons_succ]
          refine wpAnyH_take (i := 1) (oi := ({ dst := some 38, op := Op.slice 25 (Operand.tmp 6) none none none, type := 33, pos := "clash.go:43", after := #[], guard := none } : Oper)) (v := .slice (some ⟨w4.heap.size, 0, none⟩) 32 32) rfl (by kernel_rfl) (by kernel_rfl) (by kernel_rfl) (fun _ _ _ h => h) (Or.inl ⟨by rfl, fun w hSw => by go_simp⟩) hHeld ?_
          simp only [Act.put, List.setIfInBounds_toArray, List.set_cons_zero, List.set_cons_succ]
          refine wpAnyH_ready (rs := [2]) (by kernel_rfl) (by simp) ?_
          refine AllReadyH.cons (o := ({ dst := some 39, op := Op.buildSlice 62 2 #[(0, Operand.tmp 37), (1, Operand.tmp 38)], type := 62, pos := "clash.go:43", after := #[{ on := 0, ground := Ground.data }, { on := 1, ground := Ground.data }], guard := none } : Oper)) rfl (fun K hK => ?_) AllReadyH.nil
          go_simp
          refine hK.out _ _ (trivial) (fun hHeld => ?_)
          clear hK K
          try simp only [Act.put, List.setIfInBounds_toArray, List.set_cons_zero, List.set_cons_succ]
          refine wpAnyH_ready (rs := [3]) (by kernel_rfl) (by simp) ?_
          refine AllReadyH.cons (o := ({ dst := some 40, op := Op.call { callee := Callee.value (Operand.func 59), args := #[Operand.tmp 39], argTypes := #[62] }, type := 33, pos := "clash.go:43", after := #[{ on := 2, ground := Ground.data }], guard := none } : Oper)) rfl (fun K hK => ?_) AllReadyH.nil
          go_simp
          (with_reducible refine (HJN.out w5 _ _ hh node HNUM.out.2.1.1 HNUM.out.1.1 HH5.out HN5.out).mono ?_)
          rintro e w7 ⟨A7, c7, rfl, hv7, hb7⟩
          have HV7 := Lib.hid hv7
          have HBW := Lib.hid hb7
          clear hv7 hb7
          go_wp2_with fail
          refine hK.out _ _ (trivial) (fun hHeld => ?_)
          clear hK K
          try simp only [Act.put, List.setIfInBounds_toArray, List.set_cons_zero, List.set_cons_succ]
          refine wpAnyH_take (i := 4) (oi := ({ dst := some 9, op := Op.assign (Operand.tmp 40), type := 33, pos := "clash.go:43", after := #[{ on := 3, ground := Ground.data }, { on := 3, ground := Ground.chain }, { on := 0, ground := Ground.phase }, { on := 1, ground := Ground.phase }, { on := 2, ground := Ground.phase }, { on := 3, ground := Ground.phase }], guard := none } : Oper)) (v := .slice A7 64 c7) rfl (by kernel_rfl) (by kernel_rfl) (by kernel_rfl) (fun _ _ _ h => h) (Or.inl ⟨by rfl, fun w hSw => by go_simp⟩) hHeld ?_
          simp only [Act.put, List.setIfInBounds_toArray, List.set_cons_zero, List.set_cons_succ]
          refine wpAnyH_done (by kernel_rfl) ?_ _
          clear hHeld hli hs1 hbt hpbm
          have HNW2 := Lib.hid (And.intro ((HBW.out.block _ (blk_lt HN5.out)).trans HN5.out) ((HBW.out.block _ (blk_lt HK5b.out)).trans HK5b.out))
          have HMM := Lib.hid (text_M HV7.out HB5w.out.size)
          have HNN := Lib.hid (ne_own9 HR5w.out)
          have HRW := Lib.hid (Kd.R_below HR5w.out HBW.out)
          have HBW2 := Lib.hid (HB5w.out.trans (Below.mono HBW.out HB5w.out.size))
          have HLT := Lib.hid (show (out.length + 1) * 24 ≤ 140737488355328 by have := HNUM.out.2.2; omega)
          have hb1 := fun A m c u => run_build1t A m c u
          go_wp2_with ((with_reducible refine gate_builtin (b := .append) (xs := #[.tmp 41, .tmp 43]) rfl ?_); at_builtin; refine Kd.R_append kBs (w0 := w) w.heap.size rfl (.tmp 41) (.tmp 43) 62 33 (.slice none 0 0) 24 rfl Tryd.underlying62 infoBs rfl (by decide) (by decide) _ out (hh ++ node) [.slice A7 64 c7] (fun _ => True) (fun k => w5.heap.size ≤ k) rfl (by first | (go_simp; done) | (go_simp; rfl)) HMM.out HNN.out (fun _ _ => trivial) HRW.out HBW2.out HBW2.out.size HLT.out ?_; intro v8 w8 ho hb hg hat; have HR8 := Lib.hid ho; have HB8 := Lib.hid hb; have HG8 := Lib.hid hg; clear ho hb hg hat)
          have HN8 := Lib.hid (blk_grown HNW2.out.1 HG8.out (Kd.R_ne HRW.out HNW2.out.1 (by decide)))
          have HK8 := Lib.hid (blk_grown HNW2.out.2 HG8.out (Kd.R_ne HRW.out HNW2.out.2 (by decide)))
          have HT8 := Lib.hid (R_text HV7.out HR5w.out HG8.out)
          have HTW8 := Lib.hid (show Calls Tryd.prog 50 #[.slice (some ⟨w8.heap.size, 0, none⟩) 1 1] (w8.alloc (.cells #[.slice A7 64 c7] 33)) fun e w' => e = .returned (.agg (nums .u8 (twiceP (hh ++ node))).toArray) ∧ Below (w8.alloc (.cells #[.slice A7 64 c7] 33)).heap.size (w8.alloc (.cells #[.slice A7 64 c7] 33)) w' from by
            obtain ⟨hl9, hc9, hC9⟩ := Kd.R_reads' HT8.out
            have h9 := twice_calls (some ⟨w8.heap.size, 0, none⟩) 1 1 [hh ++ node] (w8.alloc (.cells #[.slice A7 64 c7] 33)) rfl (C_one (A := A7) (c := c7) (ys := hh ++ node) (by rw [← hl9]; exact heap_alloc_new w8 _) (by rw [← hl9]; exact hc9) (Kd.C_alloc hC9 _)) (by
              intro ys hys x hx
              obtain rfl : ys = hh ++ node := by simpa using hys
              rcases List.mem_append.1 hx with h | h
              · first | exact HNUM.out.1.2 x h | exact HNUM.out.2.1.2 x h
              · first | exact HNUM.out.2.1.2 x h | exact HNUM.out.1.2 x h) (by simp [HNUM.out.1.1, HNUM.out.2.1.1]) (by decide) (HK.out.below (below_alloc HB8.out _) (Nat.le_refl _))
            rw [show [hh ++ node].flatten = hh ++ node by simp] at h9
            exact h9)
          go_wp2_with fail
          (with_reducible refine HTW8.out.mono ?_)
          rintro e w9 ⟨rfl, hb9⟩
          have HB9 := Lib.hid ((below_alloc HB8.out (.cells #[.slice A7 64 c7] 33)).trans (Below.mono hb9 (below_alloc HB8.out (.cells #[.slice A7 64 c7] 33)).size))
          have HR9 := Lib.hid (Kd.R_below (Kd.R_alloc HR8.out (.cells #[.slice A7 64 c7] 33)) hb9)
          have HN9 := Lib.hid ((hb9.block _ (blk_lt (blk_alloc HN8.out (.cells #[.slice A7 64 c7] 33)))).trans (blk_alloc HN8.out _))
          have HK9 := Lib.hid ((hb9.block _ (blk_lt (blk_alloc HK8.out (.cells #[.slice A7 64 c7] 33)))).trans (blk_alloc HK8.out _))
          clear hb9 hb1
          have HIT := Lib.hid (HF.out (twiceP (hh ++ node)) (twiceP_len _))
          have HST := Lib.hid (show (nums .u8 node).toArray.size = (nums .u8 (twiceP (hh ++ node))).toArray.size from by rw [HIN.out.2.2.1, HIT.out.2.2.1])
          go_wp2_with ((with_reducible show wpList _ _ _ (Oper.mk _ (Op.store _ (.tmp 6) _) _ _ _ _ :: _) _ _); (go_loud (refine wpList_store_row rfl 25 (.tmp 6) (.tmp 47) rfl w4.heap.size (nums .u8 (twiceP (hh ++ node))).toArray rfl rfl 25 (nums .u8 node).toArray HN9.out HIT.out.2.1 HST.out HIT.out.2.2.2 ?_)))
          have HFN := Lib.hid (show Kd.R kBs 33 (w9.setRow w4.heap.size (nums .u8 (twiceP (hh ++ node))).toArray) w.heap.size (fun _ => True) v8 (out ++ [hh ++ node]) ∧ ((w9.setRow w4.heap.size (nums .u8 (twiceP (hh ++ node))).toArray).heap[w4.heap.size]? = some (.cells (nums .u8 (twiceP (hh ++ node))).toArray 25 (0, 0)) ∧ (w9.setRow w4.heap.size (nums .u8 (twiceP (hh ++ node))).toArray).heap[w.heap.size]? = some (.cells #[.int .i64 cnt, .int .i64 (i : Int), .slice (some ⟨b, o, none⟩) m c] 41 (0, 0)) ∧ Below w.heap.size w (w9.setRow w4.heap.size (nums .u8 (twiceP (hh ++ node))).toArray)) from ⟨Kd.R_mono (Kd.R_step (Kd.R_types HR9.out HN9.out ty_b) (fun k hk _ => setRow_other _ _ _ _ hk.2)) (fun _ _ => trivial), setRow_heap _ _ _ _ _ _ HN9.out, (setRow_other _ _ _ _ (Nat.ne_of_lt HNW.out)).trans HK9.out, below_setRow HB9.out (Nat.le_of_lt HNW.out) _⟩)
          have hwk : wrap64 ((k : Int) + 1) = ((k + 1 : Nat) : Int) := wrap64_succ (Nat.lt_of_lt_of_le hlt (Nat.le_trans hm2 (by decide)))
          obtain ⟨WF, hWF⟩ : ∃ W, w9.setRow w4.heap.size (nums .u8 (twiceP (hh ++ node))).toArray = W := ⟨_, rfl⟩
          rw [hWF] at HFN ⊢
          clear hWF
          try rw [hwk]
          go_roundw
          case rel => exact ⟨k + 1, twiceP (hh ++ node), out ++ [hh ++ node], rfl, Lib.hid ⟨hlt, ⟨twiceP_len _, twiceP_bytes _⟩, HFN.out.1, HFN.out.2, by rw [List.length_append, HNUM.out.2.2]; rfl, by
            have h9 := HEQ.out
            rw [HST9] at h9
            rw [List.append_assoc]
            exact h9⟩⟩
          case measure => simp only [intOf]; omega
        · have od2 : pb % 2 = 0 := by omega
          rw [od2] at hpbm
          have HST9 : stepT pb node hh = node ++ hh := by unfold stepT; rw [if_neg od]
          have HBW := Lib.hid HB6.out
          have HNW2 := Lib.hid (And.intro HN5.out HK5b.out)
          clear hs1 hbt
          have HMM := Lib.hid (text_M HV5.out HBA.out.size)
          have HNN := Lib.hid (ne_own9 HRA.out)
          have HRW := Lib.hid (Kd.R_below HRA.out HBW.out)
          have HBW2 := Lib.hid (HBA.out.trans (Below.mono HBW.out HBA.out.size))
          have HLT := Lib.hid (show (out.length + 1) * 24 ≤ 140737488355328 by have := HNUM.out.2.2; omega)
          have hb1 := fun A m c u => run_build1t A m c u
          go_wp2_with ((with_reducible refine gate_builtin (b := .append) (xs := #[.tmp 41, .tmp 43]) rfl ?_); at_builtin; refine Kd.R_append kBs (w0 := w) w.heap.size rfl (.tmp 41) (.tmp 43) 62 33 (.slice none 0 0) 24 rfl Tryd.underlying62 infoBs rfl (by decide) (by decide) _ out (node ++ hh) [.slice A5 64 c5] (fun _ => True) (fun k => W1.heap.size ≤ k) rfl (by first | (go_simp; done) | (go_simp; rfl)) HMM.out HNN.out (fun _ _ => trivial) HRW.out HBW2.out HBW2.out.size HLT.out ?_; intro v8 w8 ho hb hg hat; have HR8 := Lib.hid ho; have HB8 := Lib.hid hb; have HG8 := Lib.hid hg; clear ho hb hg hat)
          have HN8 := Lib.hid (blk_grown HNW2.out.1 HG8.out (Kd.R_ne HRW.out HNW2.out.1 (by decide)))
          have HK8 := Lib.hid (blk_grown HNW2.out.2 HG8.out (Kd.R_ne HRW.out HNW2.out.2 (by decide)))
          have HT8 := Lib.hid (R_text HV5.out HRA.out HG8.out)
          have HTW8 := Lib.hid (show Calls Tryd.prog 50 #[.slice (some ⟨w8.heap.size, 0, none⟩) 1 1] (w8.alloc (.cells #[.slice A5 64 c5] 33)) fun e w' => e = .returned (.agg (nums .u8 (twiceP (node ++ hh))).toArray) ∧ Below (w8.alloc (.cells #[.slice A5 64 c5] 33)).heap.size (w8.alloc (.cells #[.slice A5 64 c5] 33)) w' from by
            obtain ⟨hl9, hc9, hC9⟩ := Kd.R_reads' HT8.out
            have h9 := twice_calls (some ⟨w8.heap.size, 0, none⟩) 1 1 [node ++ hh] (w8.alloc (.cells #[.slice A5 64 c5] 33)) rfl (C_one (A := A5) (c := c5) (ys := node ++ hh) (by rw [← hl9]; exact heap_alloc_new w8 _) (by rw [← hl9]; exact hc9) (Kd.C_alloc hC9 _)) (by
              intro ys hys x hx
              obtain rfl : ys = node ++ hh := by simpa using hys
              rcases List.mem_append.1 hx with h | h
              · first | exact HNUM.out.1.2 x h | exact HNUM.out.2.1.2 x h
              · first | exact HNUM.out.2.1.2 x h | exact HNUM.out.1.2 x h) (by simp [HNUM.out.1.1, HNUM.out.2.1.1]) (by decide) (HK.out.below (below_alloc HB8.out _) (Nat.le_refl _))
            rw [show [node ++ hh].flatten = node ++ hh by simp] at h9
            exact h9)
          go_wp2_with fail
          (with_reducible refine HTW8.out.mono ?_)
          rintro e w9 ⟨rfl, hb9⟩
          have HB9 := Lib.hid ((below_alloc HB8.out (.cells #[.slice A5 64 c5] 33)).trans (Below.mono hb9 (below_alloc HB8.out (.cells #[.slice A5 64 c5] 33)).size))
          have HR9 := Lib.hid (Kd.R_below (Kd.R_alloc HR8.out (.cells #[.slice A5 64 c5] 33)) hb9)
          have HN9 := Lib.hid ((hb9.block _ (blk_lt (blk_alloc HN8.out (.cells #[.slice A5 64 c5] 33)))).trans (blk_alloc HN8.out _))
          have HK9 := Lib.hid ((hb9.block _ (blk_lt (blk_alloc HK8.out (.cells #[.slice A5 64 c5] 33)))).trans (blk_alloc HK8.out _))
          clear hb9 hb1
          have HIT := Lib.hid (HF.out (twiceP (node ++ hh)) (twiceP_len _))
          have HST := Lib.hid (show (nums .u8 node).toArray.size = (nums .u8 (twiceP (node ++ hh))).toArray.size from by rw [HIN.out.2.2.1, HIT.out.2.2.1])
          go_wp2_with ((with_reducible show wpList _ _ _ (Oper.mk _ (Op.store _ (.tmp 6) _) _ _ _ _ :: _) _ _); (go_loud (refine wpList_store_row rfl 25 (.tmp 6) (.tmp 47) rfl w4.heap.size (nums .u8 (twiceP (node ++ hh))).toArray rfl rfl 25 (nums .u8 node).toArray HN9.out HIT.out.2.1 HST.out HIT.out.2.2.2 ?_)))
          have HFN := Lib.hid (show Kd.R kBs 33 (w9.setRow w4.heap.size (nums .u8 (twiceP (node ++ hh))).toArray) w.heap.size (fun _ => True) v8 (out ++ [node ++ hh]) ∧ ((w9.setRow w4.heap.size (nums .u8 (twiceP (node ++ hh))).toArray).heap[w4.heap.size]? = some (.cells (nums .u8 (twiceP (node ++ hh))).toArray 25 (0, 0)) ∧ (w9.setRow w4.heap.size (nums .u8 (twiceP (node ++ hh))).toArray).heap[w.heap.size]? = some (.cells #[.int .i64 cnt, .int .i64 (i : Int), .slice (some ⟨b, o, none⟩) m c] 41 (0, 0)) ∧ Below w.heap.size w (w9.setRow w4.heap.size (nums .u8 (twiceP (node ++ hh))).toArray)) from ⟨Kd.R_mono (Kd.R_step (Kd.R_types HR9.out HN9.out ty_b) (fun k hk _ => setRow_other _ _ _ _ hk.2)) (fun _ _ => trivial), setRow_heap _ _ _ _ _ _ HN9.out, (setRow_other _ _ _ _ (Nat.ne_of_lt HNW.out)).trans HK9.out, below_setRow HB9.out (Nat.le_of_lt HNW.out) _⟩)
          have hwk : wrap64 ((k : Int) + 1) = ((k + 1 : Nat) : Int) := wrap64_succ (Nat.lt_of_lt_of_le hlt (Nat.le_trans hm2 (by decide)))
          obtain ⟨WF, hWF⟩ : ∃ W, w9.setRow w4.heap.size (nums .u8 (twiceP (node ++ hh))).toArray = W := ⟨_, rfl⟩
          rw [hWF] at HFN ⊢
          clear hWF
          try rw [hwk]
          go_roundw
          case rel => exact ⟨k + 1, twiceP (node ++ hh), out ++ [node ++ hh], rfl, Lib.hid ⟨hlt, ⟨twiceP_len _, twiceP_bytes _⟩, HFN.out.1, HFN.out.2, by rw [List.length_append, HNUM.out.2.2]; rfl, by
            have h9 := HEQ.out
            rw [HST9] at h9
            rw [List.append_assoc]
            exact h9⟩⟩
          case measure => simp only [intOf]; omega
      · obtain ⟨hkm, hnode, hRo, ⟨hN, hB, hBw⟩, hol, heq⟩ := H.out
        have gk : ¬ (k : Int) < (m : Int) := by omega
        rw [claimL_nil (by rw [← HM.out]; omega), List.append_nil] at heq
        have HEQ := Lib.hid heq
        have HRO := Lib.hid (And.intro hRo hBw)
        clear hkm hnode hRo hN hB hBw hol heq H
        go_wp2_with fail
        go_ret
        exact ⟨u5, rfl, by rw [← HEQ.out]; exact HRO.out.1, HRO.out.2⟩
  · have hv : claimP cnt idx xs text = [] := by rw [HCP.out, if_pos hok]
    rw [hv]
    clear hv
    go_enter Tryd.func46, Tryd.ntmps46
    go_wp2_with ((with_reducible show wpList _ _ _ (Oper.mk _ (Op.load _ (.tmp 3)) _ _ _ _ :: _) _ _); rw [HW0.out]; (go_loud (refine wpList_load_row rfl 41 (.tmp 3) rfl w.heap.size rfl 41 #[.int .i64 cnt, .int .i64 idx, .slice A m c] (0, 0) _ HBK.out HI9.out.1 rfl HI9.out.2 ?_)))
    refine (HRI.out _).mono ?_
    rintro e w1 ⟨rfl, hb1⟩
    have HB1 := Lib.hid (HB0.out.trans (Below.mono hb1 HB0.out.size))
    clear hb1
    go_wp2_with fail
    go_ret
    exact ⟨_, rfl, Kd.R_nil _ _ _ _ _, HB1.out⟩
end Go.Proofs.YtlmcdkjobdcflaaDoor.Hand


/- What clash.Extract tells, as plain lists; bytes.Equal. -/
namespace Go.Proofs.YtlmcdkjobdcflaaDoor.Hand
open Go Go.RowKit Go.Proofs.YtlmcdkjobdcflaaDoor.Plain Go.Proofs.YtlmcdkjobdcflaaDoor.PAll Go.Proofs.YtlmcdkjobdcflaaDoorW.PrintWords Go.Proofs.YtlmcdkjobdcflaaDoorW.PrintLast Go.Proofs.YtlmcdkjobdcflaaDoorW.PrintMore
set_option linter.unusedVariables false
set_option linter.unusedSimpArgs false
set_option maxRecDepth 100000
def pickT (texts : List (List Int)) (c : List Int) : Option (List Int) := texts.find? (fun t => twiceP t == twiceP c && t != c)
def extractP (texts claims : List (List Int)) : Option (List Int × List Int) := claims.findSome? (fun c => (pickT texts c).map (fun t => (c, t)))
def fam (ps : List (List Int × Tri)) (c : List Int) : List (List Int × Tri) := ps.filter (fun p => twiceP p.1 == twiceP c)
theorem sel_fam (ps : List (List Int × Tri)) (c : List Int) : sel (twiceP c) ps = (fam ps c).map (·.2) := rfl
theorem pick_map (ps : List (List Int × Tri)) (c : List Int) : pickT (ps.map (·.1)) c = ((fam ps c).find? (fun p => p.1 != c)).map (·.1) := by
  unfold pickT fam
  rw [List.find?_map, List.find?_filter]
  have e : (fun a : List Int × Tri => decide ((twiceP a.1 == twiceP c) = true ∧ (a.1 != c) = true)) = (fun a => (twiceP a.1 == twiceP c && a.1 != c)) := by
    funext a
    rw [Bool.decide_and, Bool.decide_eq_true, Bool.decide_eq_true]
  rw [e]
  rfl
theorem pick_some {ps : List (List Int × Tri)} {c : List Int} {j : Nat} (hj : j < (fam ps c).length) (h : ∀ p ∈ (fam ps c).take j, p.1 = c) (hne : (fam ps c)[j].1 ≠ c) : pickT (ps.map (·.1)) c = some (fam ps c)[j].1 := by
  rw [pick_map]
  have : (fam ps c).find? (fun p => p.1 != c) = some (fam ps c)[j] := by
    rw [List.find?_eq_some_iff_getElem]
    refine ⟨by simpa using hne, j, hj, rfl, fun i hi => ?_⟩
    have := h (fam ps c)[i] (by
      rw [List.mem_iff_getElem]
      refine ⟨i, by rw [List.length_take]; omega, ?_⟩
      rw [List.getElem_take])
    simp [this]
  rw [this]
  rfl
theorem pick_none {ps : List (List Int × Tri)} {c : List Int} (h : ∀ p ∈ fam ps c, p.1 = c) : pickT (ps.map (·.1)) c = none := by
  rw [pick_map, Option.map_eq_none_iff, List.find?_eq_none]
  intro p hp
  simp [h p hp]
theorem take_one {α : Type} {xs : List α} {j : Nat} (hj : j < xs.length) {q : α → Prop} (h : ∀ p ∈ xs.take j, q p) (h1 : q xs[j]) : ∀ p ∈ xs.take (j + 1), q p := by
  rw [List.take_succ_eq_append_getElem hj]
  intro p hp
  rcases List.mem_append.1 hp with hp | hp
  · exact h p hp
  · obtain rfl := List.mem_singleton.1 hp
    exact h1
theorem extract_some {texts claims : List (List Int)} {k : Nat} {t : List Int} (hk : k < claims.length) (h : ∀ c ∈ claims.take k, pickT texts c = none) (h1 : pickT texts claims[k] = some t) : extractP texts claims = some (claims[k], t) := by
  unfold extractP
  rw [List.findSome?_eq_some_iff]
  refine ⟨claims.take k, claims[k], claims.drop (k + 1), ?_, by rw [h1]; rfl, fun c hc => by rw [h c hc]; rfl⟩
  exact (List.take_append_drop k claims).symm.trans (by rw [List.drop_eq_getElem_cons hk])
theorem extract_none {texts claims : List (List Int)} (h : ∀ c ∈ claims, pickT texts c = none) : extractP texts claims = none := by
  unfold extractP
  rw [List.findSome?_eq_none_iff]
  intro c hc
  rw [h c hc]
  rfl
/-- A slice of bytes that is read. -/
def Txt (w : World) (A : Option Addr) (m c : Nat) (ys : List Int) : Prop := m = ys.length ∧ ys.length ≤ c ∧ Kd.C (Kd.int .u8) w A ys.length ys
theorem Txt.below {w u : World} {A : Option Addr} {m c : Nat} {ys : List Int} (h : Txt w A m c ys) (hb : Below w.heap.size w u) : Txt u A m c ys := ⟨h.1, h.2.1, Kd.C_below h.2.2 hb⟩
theorem Txt.kp {w u : World} {b : Nat} {A : Option Addr} {m c : Nat} {ys : List Int} (h : Txt w A m c ys) (hk : Kp w b u) : Txt u A m c ys := ⟨h.1, h.2.1, hk.C h.2.2⟩
def okT (ys : List Int) : Prop := (∀ x ∈ ys, 0 ≤ x ∧ x < 256) ∧ ys.length ≤ 900000
theorem okT_hh {a b : List Int} (ha : a.length = 32 ∧ ∀ x ∈ a, 0 ≤ x ∧ x < 256) (hb : b.length = 32 ∧ ∀ x ∈ b, 0 ≤ x ∧ x < 256) : okT (a ++ b) := by
  refine ⟨fun x hx => ?_, by rw [List.length_append, ha.1, hb.1]; decide⟩
  rcases List.mem_append.1 hx with h | h
  · exact ha.2 x h
  · exact hb.2 x h
theorem textsAt_ok {yss : List (List Int)} (hy : ∀ ys ∈ yss, okT ys) : ∀ k, ∀ ys ∈ textsAt yss k, okT ys
  | 0, ys, h => hy ys h
  | k + 1, ys, h => by
    rw [textsAt] at h
    rcases List.mem_append.1 h with h | h
    · exact textsAt_ok hy k ys h
    · simp only [rowT, List.mem_map] at h
      obtain ⟨i, _, rfl⟩ := h
      have hH : Hs (lev (yss.map twiceP) k) := lev_Hs (fun p hp => by
        obtain ⟨y, _, rfl⟩ := List.mem_map.1 hp
        exact ⟨twiceP_len _, twiceP_bytes _⟩) k
      exact okT_hh (hH.any _) (hH.any _)
theorem textsP_ok {yss : List (List Int)} (hy : ∀ ys ∈ yss, okT ys) : ∀ ys ∈ textsP yss, okT ys := textsAt_ok hy _
theorem textsP_len {yss : List (List Int)} (hl : yss.length ≤ 1000) : (textsP yss).length ≤ 11000 := by
  have hd := depthP_is yss.length
  have hd16 : depthP yss.length ≤ 10 := depth_le hd (m := 10) (by have h10 : (2 : Nat) ^ 10 = 1024 := by decide
                                                                  omega)
  have htl := textsAt_len yss (depthP yss.length)
  have h9 : (depthP yss.length + 1) * yss.length ≤ 11 * 1000 := Nat.mul_le_mul (by omega) hl
  unfold textsP
  omega
theorem stepT_ok {p : Nat} {a b : List Int} (ha : a.length = 32 ∧ ∀ x ∈ a, 0 ≤ x ∧ x < 256) (hb : b.length = 32 ∧ ∀ x ∈ b, 0 ≤ x ∧ x < 256) : okT (stepT p a b) := by
  unfold stepT
  by_cases h : p % 2 = 1
  · rw [if_pos h]; exact okT_hh hb ha
  · rw [if_neg h]; exact okT_hh ha hb
theorem claimL_ok : ∀ (xs : List (List Int)) (p : Nat) (node : List Int), Hs xs → (node.length = 32 ∧ ∀ x ∈ node, 0 ≤ x ∧ x < 256) → ∀ ys ∈ claimL xs p node, okT ys
  | [], _, _, _, _, ys, h => by simp [claimL] at h
  | x :: xs, p, node, hx, hn, ys, h => by
    rw [claimL] at h
    rcases List.mem_cons.1 h with rfl | h
    · exact stepT_ok hn (hx x (by simp))
    · exact claimL_ok xs _ _ (fun p hp => hx p (by simp [hp])) ⟨twiceP_len _, twiceP_bytes _⟩ ys h
theorem claimP_ok {cnt idx : Int} {xs : List (List Int)} {text : List Int} (hx : Hs xs) (ht : okT text) : ∀ ys ∈ claimP cnt idx xs text, okT ys := by
  intro ys h
  unfold claimP at h
  by_cases hb : brightP cnt idx xs.length ≠ 0
  · rw [if_pos hb] at h
    simp at h
  · rw [if_neg hb] at h
    rcases List.mem_cons.1 h with rfl | h
    · exact ht
    · exact claimL_ok xs _ _ hx ⟨twiceP_len _, twiceP_bytes _⟩ ys h
theorem claimL_len : ∀ (xs : List (List Int)) (p : Nat) (node : List Int), (claimL xs p node).length = xs.length
  | [], _, _ => rfl
  | x :: xs, p, node => by rw [claimL, List.length_cons, List.length_cons, claimL_len xs]
theorem claimP_len (cnt idx : Int) (xs : List (List Int)) (text : List Int) : (claimP cnt idx xs text).length ≤ xs.length + 1 := by
  unfold claimP
  by_cases hb : brightP cnt idx xs.length ≠ 0
  · rw [if_pos hb]; simp
  · rw [if_neg hb, List.length_cons, claimL_len]; exact Nat.le_refl _
theorem strOf_inj : ∀ {xs ys : List Int}, (∀ x ∈ xs, 0 ≤ x ∧ x < 256) → (∀ x ∈ ys, 0 ≤ x ∧ x < 256) → strOfNums xs = strOfNums ys → xs = ys := by
  intro xs ys hx hy h
  have h1 : xs.map (fun n => UInt8.ofNat n.toNat) = ys.map (fun n => UInt8.ofNat n.toNat) := by
    have := congrArg (fun s : ByteArray => s.data.toList) h
    simpa [strOfNums] using this
  clear h
  induction xs generalizing ys with
  | nil =>
    cases ys with
    | nil => rfl
    | cons y ys => simp at h1
  | cons x xs ih =>
    cases ys with
    | nil => simp at h1
    | cons y ys =>
      rw [List.map_cons, List.map_cons, List.cons.injEq] at h1
      obtain ⟨e1, e2⟩ := h1
      have a := hx x (by simp)
      have b := hy y (by simp)
      have e3 := congrArg UInt8.toNat e1
      rw [UInt8.toNat_ofNat', UInt8.toNat_ofNat'] at e3
      rw [Nat.mod_eq_of_lt (by omega), Nat.mod_eq_of_lt (by omega)] at e3
      rw [ih (fun x h => hx x (by simp [h])) (fun x h => hy x (by simp [h])) e2]
      congr 1
      omega
theorem str_beq (x y : ByteArray) : (x.toList == y.toList) = true ↔ x = y := by
  rw [ByteArray.toList_eq, ByteArray.toList_eq, beq_iff_eq]
  constructor
  · intro h
    obtain ⟨⟨x⟩⟩ := x
    obtain ⟨⟨y⟩⟩ := y
    have h : x = y := h
    rw [h]
  · rintro rfl; rfl
theorem str_dec {xs ys : List Int} (hx : ∀ x ∈ xs, 0 ≤ x ∧ x < 256) (hy : ∀ x ∈ ys, 0 ≤ x ∧ x < 256) : ((strOfNums xs).toList == (strOfNums ys).toList) = decide (xs = ys) := by
  by_cases e : xs = ys
  · subst e
    rw [decide_eq_true rfl]
    exact (str_beq _ _).2 rfl
  · rw [decide_eq_false e]
    cases h : ((strOfNums xs).toList == (strOfNums ys).toList) with
    | false => rfl
    | true => exact absurd (strOf_inj hx hy ((str_beq _ _).1 h)) e
theorem equal10_calls (A B : Option Addr) (m c m2 c2 : Nat) (xs ys : List Int) (w : World) (h : Txt w A m c xs) (h2 : Txt w B m2 c2 ys) (hx : ∀ x ∈ xs, 0 ≤ x ∧ x < 256) (hy : ∀ x ∈ ys, 0 ≤ x ∧ x < 256) :
    Calls Tryd.prog 60 #[.slice A m c, .slice B m2 c2] w fun e w' => e = .returned (.bool (decide (xs = ys))) ∧ Below w.heap.size w w' := by
  have hs := str_dec hx hy
  obtain ⟨R, hR⟩ : ∃ R, decide (xs = ys) = R := ⟨_, rfl⟩
  rw [hR] at hs ⊢
  have hc1 : ∀ u : World, Below w.heap.size w u → (convert 33 9 (.slice A m c)).run Tryd.prog u = .ok (.string (strOfNums xs)) u := fun u hu => by
    have h9 := Kd.C_string (P := Tryd.prog) (c := c) Tryd.underlying33 Tryd.underlying5 Tryd.underlying9 (Kd.C_below h.2.2 hu)
    rw [← h.1] at h9
    exact h9
  have hc2 : ∀ u : World, Below w.heap.size w u → (convert 33 9 (.slice B m2 c2)).run Tryd.prog u = .ok (.string (strOfNums ys)) u := fun u hu => by
    have h9 := Kd.C_string (P := Tryd.prog) (c := c2) Tryd.underlying33 Tryd.underlying5 Tryd.underlying9 (Kd.C_below h2.2.2 hu)
    rw [← h2.1] at h9
    exact h9
  obtain ⟨s, hs1⟩ : ∃ s, strOfNums xs = s := ⟨_, rfl⟩
  obtain ⟨s2, hs2⟩ : ∃ s, strOfNums ys = s := ⟨_, rfl⟩
  rw [hs1, hs2] at hs
  rw [hs1] at hc1
  rw [hs2] at hc2
  have g1 := hc1 w (Below.refl _ _)
  have g2 := hc2 w (Below.refl _ _)
  have g3 := hc1 w.drew (below_drew (Below.refl _ _))
  have g4 := hc2 w.drew (below_drew (Below.refl _ _))
  clear h h2 hx hy hs1 hs2 hR hc1 hc2
  go_enter Tryd.func60, Tryd.ntmps60
  go_wp2_with fail
  go_ret
  refine ⟨rfl, ?_⟩
  first | exact Below.refl _ _ | exact below_drew (Below.refl _ _)
end Go.Proofs.YtlmcdkjobdcflaaDoor.Hand


/- A text into the map: what the append and the store do to the groups. -/
namespace Go.Proofs.YtlmcdkjobdcflaaDoor.Hand
open Go Go.RowKit Go.Proofs.YtlmcdkjobdcflaaDoor.Plain Go.Proofs.YtlmcdkjobdcflaaDoorW.PrintWords Go.Proofs.YtlmcdkjobdcflaaDoorW.PrintLast Go.Proofs.YtlmcdkjobdcflaaDoorW.PrintMore
set_option linter.unusedVariables false
set_option linter.unusedSimpArgs false
set_option maxRecDepth 100000
theorem sel_len (h : List Int) (ps : List (List Int × Tri)) : (sel h ps).length ≤ ps.length := by
  unfold sel
  rw [List.length_map]
  exact List.length_filter_le _ _
theorem Kp.put {w1 w2 w3 : World} {b : Nat} {own : Option Nat} {o : Obj} (h : Kp w1 b w2) (hs : w1.heap.size ≤ w2.heap.size) (hg : (putW w2 b o).grownBy w3 own) (ho : ∀ k, own = some k → w1.heap.size ≤ k) (o2 : Obj) : Kp w1 b (putW w3 b o2) := by
  refine ⟨h.1, fun k hk hne => ?_⟩
  rw [putW_other hne, hg.block k (by rw [putW_size]; omega) (fun e => by have := ho k e.symm; omega), putW_other hne]
  exact h.2 k hk hne
theorem put_below {u w2 w3 : World} {b : Nat} {own : Option Nat} {o : Obj} (h : Below u.heap.size u w2) (hb : u.heap.size ≤ b) (hg : (putW w2 b o).grownBy w3 own) (ho : ∀ k, own = some k → u.heap.size ≤ k) (o2 : Obj) : Below u.heap.size u (putW w3 b o2) := by
  have h1 := putW_below h hb o
  refine putW_below ?_ hb o2
  refine ⟨hg.os.trans h1.os, hg.tape.trans h1.tape, hg.output.trans h1.output, Nat.le_trans h1.size hg.size, fun k hk => ?_⟩
  rw [hg.block k (Nat.lt_of_lt_of_le hk h1.size) (fun e => by have := ho k e.symm; omega)]
  exact h1.block k hk
/-- The entry was new. -/
theorem step_new {u W2 w w3 : World} {b : Nat} {L : List (List Int × Value)} {ps : List (List Int × Tri)} {y h : List Int} {x : Tri} {v : Value} (hG : Grp w b W2.heap.size L ps) (hK : Kp W2 b w) (hs : W2.heap.size ≤ w.heap.size) (hB : Below u.heap.size u w) (hub : u.heap.size ≤ b) (hbB : b < W2.heap.size) (hh : twiceP y = h)
    (hf : findL h L 0 = none) (hv : Kd.R kS 33 w3 W2.heap.size (fun k => W2.heap.size ≤ k) v [x]) (hg : (putW w b (.map (mE (L ++ [(h, .slice none 0 0)])).toArray (L.length + 1))).grownBy w3 (Value.slice none 0 0).ownBlock)
    (hat : v.ownBlock = (Value.slice none 0 0).ownBlock ∨ ∃ c, v.ownBlock = some c ∧ (putW w b (.map (mE (L ++ [(h, .slice none 0 0)])).toArray (L.length + 1))).heap.size ≤ c) :
    (Instr.entryStore 90 (.map (some b)) (.int .i64 (L.length : Int)) v).run Tryd.prog w3 = .ok () (putW w3 b (.map (mE (L ++ [(h, v)])).toArray (L.length + 1))) ∧
    Grp (putW w3 b (.map (mE (L ++ [(h, v)])).toArray (L.length + 1))) b W2.heap.size (L ++ [(h, v)]) (ps ++ [(y, x)]) ∧ Kp W2 b (putW w3 b (.map (mE (L ++ [(h, v)])).toArray (L.length + 1))) ∧
    W2.heap.size ≤ (putW w3 b (.map (mE (L ++ [(h, v)])).toArray (L.length + 1))).heap.size ∧ Below u.heap.size u (putW w3 b (.map (mE (L ++ [(h, v)])).toArray (L.length + 1))) := by
  have hbw : b < w.heap.size := blk_lt hG.at_
  have hat3 : w3.heap[b]? = some (.map (mE (L ++ [(h, .slice none 0 0)])).toArray (L.length + 1)) := by
    rw [hg.block b (by rw [putW_size]; exact hbw) (by simp [Value.ownBlock])]
    exact putW_at hG.at_
  have hset : (L ++ [(h, Value.slice none 0 0)]).set L.length (h, v) = L ++ [(h, v)] := by
    rw [List.set_append_right _ _ (Nat.le_refl _)]
    simp
  have hle : (L ++ [(h, Value.slice none 0 0)]).length = L.length + 1 := by simp
  have hrun := run_estore b L.length (L ++ [(h, .slice none 0 0)]) h (.slice none 0 0) v w3 (by rw [hle]; exact hat3) (by simp)
  rw [hset, hle] at hrun
  have hsz : W2.heap.size ≤ w3.heap.size := by
    have := hg.size
    rw [putW_size] at this
    omega
  refine ⟨hrun, ?_, hK.put hs hg (fun k e => by simp [Value.ownBlock] at e) _, by rw [putW_size]; exact hsz, put_below hB hub hg (fun k e => by simp [Value.ownBlock] at e) _⟩
  subst hh
  refine hG.new hf (Kd.R_step hv (fun k hk _ => putW_other (fun e => by have hk : W2.heap.size ≤ k := hk; omega))) ?_ (putW_at hat3) (fun k hk hlt => ?_)
  · intro k e
    rcases hat with h1 | ⟨c, h1, h2⟩
    · rw [e] at h1
      simp [Value.ownBlock] at h1
    · rw [e] at h1
      injection h1 with h1
      rw [putW_size] at h2
      omega
  · rw [putW_other (by omega), hg.block k (by rw [putW_size]; exact hlt) (by simp [Value.ownBlock]), putW_other (by omega)]
/-- The entry was there. -/
theorem step_old {u W2 w w3 : World} {b : Nat} {L : List (List Int × Value)} {ps : List (List Int × Tri)} {y h : List Int} {x : Tri} {v v1 : Value} {i : Nat} (hG : Grp w b W2.heap.size L ps) (hK : Kp W2 b w) (hs : W2.heap.size ≤ w.heap.size) (hB : Below u.heap.size u w) (hub : u.heap.size ≤ b) (hbB : b < W2.heap.size) (hh : twiceP y = h)
    (hf : findL h L 0 = some (i, v)) (hv : Kd.R kS 33 w3 W2.heap.size (fun k => W2.heap.size ≤ k) v1 (sel h ps ++ [x])) (hg : (putW w b (.map (mE L).toArray L.length)).grownBy w3 v.ownBlock)
    (hat : v1.ownBlock = v.ownBlock ∨ ∃ c, v1.ownBlock = some c ∧ (putW w b (.map (mE L).toArray L.length)).heap.size ≤ c) :
    (Instr.entryStore 90 (.map (some b)) (.int .i64 (i : Int)) v1).run Tryd.prog w3 = .ok () (putW w3 b (.map (mE (L.set i (h, v1))).toArray L.length)) ∧
    Grp (putW w3 b (.map (mE (L.set i (h, v1))).toArray L.length)) b W2.heap.size (L.set i (h, v1)) (ps ++ [(y, x)]) ∧ Kp W2 b (putW w3 b (.map (mE (L.set i (h, v1))).toArray L.length)) ∧
    W2.heap.size ≤ (putW w3 b (.map (mE (L.set i (h, v1))).toArray L.length)).heap.size ∧ Below u.heap.size u (putW w3 b (.map (mE (L.set i (h, v1))).toArray L.length)) := by
  obtain ⟨_, hi, hLi⟩ := findL_spec _ _ _ _ _ hf
  have hi : i < L.length := hi
  have hLi : L[i] = (h, v) := hLi
  have hr := hG.row i hi
  rw [hLi] at hr
  have hown : ∀ k, v.ownBlock = some k → W2.heap.size ≤ k := fun k e => hr.1 k e
  have hbw : b < w.heap.size := blk_lt hG.at_
  have hat3 : w3.heap[b]? = some (.map (mE L).toArray L.length) := by
    rw [hg.block b (by rw [putW_size]; exact hbw) (fun e => by have := hown b e.symm; omega)]
    exact putW_at hG.at_
  have hrun := run_estore b i L h v v1 w3 hat3 (by rw [List.getElem?_eq_getElem hi, hLi])
  have hsz : W2.heap.size ≤ w3.heap.size := by
    have := hg.size
    rw [putW_size] at this
    omega
  have hub2 : u.heap.size ≤ W2.heap.size := by omega
  refine ⟨hrun, ?_, hK.put hs hg hown _, by rw [putW_size]; exact hsz, put_below hB hub hg (fun k e => Nat.le_trans hub2 (hown k e)) _⟩
  subst hh
  refine hG.old hf (Kd.R_step hv (fun k hk _ => putW_other (fun e => by have hk : W2.heap.size ≤ k := hk; omega))) ?_ (putW_at hat3) (fun k hk hlt hne => ?_)
  · rcases hat with h1 | ⟨c, h1, h2⟩
    · exact Or.inl h1
    · rw [putW_size] at h2
      exact Or.inr ⟨c, h1, h2⟩
  · rw [putW_other (by omega), hg.block k (by rw [putW_size]; exact hlt) hne, putW_other (by omega)]
/-- The row that the entry holds, in the world of the entry. -/
theorem row_old {W2 w : World} {b : Nat} {L : List (List Int × Value)} {ps : List (List Int × Tri)} {h : List Int} {v : Value} {i : Nat} (hG : Grp w b W2.heap.size L ps) (hbB : b < W2.heap.size) (hf : findL h L 0 = some (i, v)) : Kd.R kS 33 (putW w b (.map (mE L).toArray L.length)) W2.heap.size (fun k => W2.heap.size ≤ k) v (sel h ps) := by
  obtain ⟨_, hi, hLi⟩ := findL_spec _ _ _ _ _ hf
  have hi : i < L.length := hi
  have hLi : L[i] = (h, v) := hLi
  have hr := hG.row i hi
  rw [hLi] at hr
  exact Kd.R_step hr (fun k hk _ => putW_other (fun e => by have hk : W2.heap.size ≤ k := hk; omega))
theorem ne_own8 {w0 : World} {e base : Nat} {α : Type} {d : Kd α} {ok : Nat → Prop} {v : Value} {xs : List α} (h : Kd.R d e w0 base ok v xs) : ∀ k, base ≤ k ∧ w0.heap.size ≤ k → base ≤ k ∧ some k ≠ v.ownBlock := fun k hk => ⟨hk.1, fun e => by
  have := Kd.R_lt h k e.symm
  omega⟩
/-- Both ways in one. -/
theorem step_both {u W2 w : World} {b : Nat} {L : List (List Int × Value)} {ps : List (List Int × Tri)} {y h : List Int} (x : Tri) (o : Obj) (hG : Grp w b W2.heap.size L ps) (hK : Kp W2 b w) (hs : W2.heap.size ≤ w.heap.size) (hB : Below u.heap.size u w) (hub : u.heap.size ≤ b) (hbB : b < W2.heap.size) (hh : twiceP y = h) (hl : h.length = 32) :
    ∃ v0 i0 W7 xs0, (Instr.mapEntry 90 (.map (some b)) (.agg (nums .u8 h).toArray)).run Tryd.prog (w.alloc o) = .ok (.tuple #[v0, .int .i64 i0]) (W7.alloc o) ∧ w.heap.size = W7.heap.size ∧
      Kd.R kS 33 W7 W2.heap.size (fun k => W2.heap.size ≤ k) v0 xs0 ∧ xs0.length ≤ ps.length ∧
      ∀ v8 w8, Kd.R kS 33 w8 W2.heap.size (fun k => W2.heap.size ≤ k) v8 (xs0 ++ [x]) → W7.grownBy w8 v0.ownBlock → (v8.ownBlock = v0.ownBlock ∨ ∃ c, v8.ownBlock = some c ∧ W7.heap.size ≤ c) →
        ∃ L9 W9, (Instr.entryStore 90 (.map (some b)) (.int .i64 i0) v8).run Tryd.prog w8 = .ok () W9 ∧ Grp W9 b W2.heap.size L9 (ps ++ [(y, x)]) ∧ Kp W2 b W9 ∧ W2.heap.size ≤ W9.heap.size ∧ Below u.heap.size u W9 := by
  cases hf : findL h L 0 with
  | none =>
    have hme := run_entry_new b h hl L (w.alloc o) (blk_alloc hG.at_ _) hG.len hf
    rw [putW_alloc _ _ _ _ (blk_lt hG.at_)] at hme
    refine ⟨_, _, _, [], hme, (putW_size _ _ _).symm, Kd.R_nil _ _ _ _ _, Nat.zero_le _, fun v8 w8 hv hg hat => ?_⟩
    have h9 := step_new (u := u) hG hK hs hB hub hbB hh hf hv hg hat
    exact ⟨_, _, h9⟩
  | some q =>
    obtain ⟨i, v⟩ := q
    have hme := run_entry_old b h hl L i v (w.alloc o) (blk_alloc hG.at_ _) hG.len hf
    rw [putW_alloc _ _ _ _ (blk_lt hG.at_)] at hme
    refine ⟨_, _, _, _, hme, (putW_size _ _ _).symm, row_old hG hbB hf, sel_len _ _, fun v8 w8 hv hg hat => ?_⟩
    have h9 := step_old (u := u) hG hK hs hB hub hbB hh hf hv hg hat
    exact ⟨_, _, h9⟩
end Go.Proofs.YtlmcdkjobdcflaaDoor.Hand


/- clash.Extract walked. -/
namespace Go.Proofs.YtlmcdkjobdcflaaDoor.Hand
open Go Go.RowKit Go.Proofs.YtlmcdkjobdcflaaDoor.Plain Go.Proofs.YtlmcdkjobdcflaaDoor.PAll Go.Proofs.YtlmcdkjobdcflaaDoorW.PrintWords Go.Proofs.YtlmcdkjobdcflaaDoorW.PrintLast Go.Proofs.YtlmcdkjobdcflaaDoorW.PrintMore
set_option linter.unusedVariables false
set_option linter.unusedSimpArgs false
set_option maxRecDepth 100000
attribute [local go_sem ↓] Go.wp_at_zero Go.wp_at_succ
attribute [-go_sem] loadVar storeVar Instr.buildSlice
theorem Txt.drew {w : World} {A : Option Addr} {m c : Nat} {ys : List Int} (h : Txt w A m c ys) : Txt w.drew A m c ys := h.below (below_drew (Below.refl _ _))
/-- Twice of one text, in a world in which it lies. -/
theorem twice_one {w u : World} {A : Option Addr} {m c : Nat} {ys : List Int} (h : Txt u A m c ys) (hy : okT ys) (hK : KT w) (hB : Below w.heap.size w u) :
    Calls Tryd.prog 50 #[.slice (some ⟨u.heap.size, 0, none⟩) 1 1] (u.alloc (.cells #[.slice A m c] 33)) fun e w' => e = .returned (.agg (nums .u8 (twiceP ys)).toArray) ∧ Below (u.alloc (.cells #[.slice A m c] 33)).heap.size (u.alloc (.cells #[.slice A m c] 33)) w' := by
  obtain ⟨rfl, h2, h3⟩ := h
  have h9 := twice_calls (some ⟨u.heap.size, 0, none⟩) 1 1 [ys] (u.alloc (.cells #[.slice A ys.length c] 33)) rfl (C_one (A := A) (c := c) (ys := ys) (heap_alloc_new u _) h2 (Kd.C_alloc h3 _)) (by simpa using hy.1) (by simpa using hy.2) (by decide) (hK.below (below_alloc hB _) (Nat.le_refl _))
  rw [show [ys].flatten = ys by simp] at h9
  exact h9
theorem C_txt {w : World} {A : Option Addr} {n : Nat} {yss : List (List Int)} (h : Kd.C kBs w A n yss) {i : Nat} (hi : i < yss.length) : ∃ ad Ai m ci, A = some ad ∧ w.cell? (ad.add i) = some (.slice Ai m ci) ∧ Txt w Ai m ci yss[i] := by
  have hn : yss.length = n := Kd.C_len h
  obtain ⟨ad, Ai, ci, e, h1, h2, h3⟩ := C_text (w := w) (A := A) (yss := yss) (by rw [hn]; exact h) hi
  exact ⟨ad, Ai, _, ci, e, h1, rfl, h2, h3⟩
set_option maxHeartbeats 8000000 in
theorem extract10_calls (A : Option Addr) (n c : Nat) (yss : List (List Int)) (A0 : Option Addr) (m0 c0 : Nat) (text : List Int) (cnt idx : Int) (A1 : Option Addr) (m c1 : Nat) (xs : List (List Int)) (w : World) (hn : n = yss.length) (hr : Kd.C kBs w A n yss) (hl : n ≤ 1000) (hy : ∀ ys ∈ yss, okT ys)
    (ht : Txt w A0 m0 c0 text) (htb : okT text) (hm : m = xs.length) (hr1 : Kd.C kH w A1 m xs) (hc1 : m ≤ c1) (hm2 : m ≤ 1000) (hH : Hs xs) (hK : KT w)
    (h0 : -9223372036854775808 ≤ cnt) (h1 : cnt ≤ 9223372036854775807) :
    Calls Tryd.prog 48 #[.slice A n c, .slice A0 m0 c0, bV cnt idx A1 m c1] w fun e w' => (∃ a1 b1 d1 a2 b2 d2, e = .returned (.tuple #[.slice a1 b1 d1, .slice a2 b2 d2, .bool (extractP (textsP yss) (claimP cnt idx xs text)).isSome]) ∧ Txt w' a1 b1 d1 ((extractP (textsP yss) (claimP cnt idx xs text)).getD ([], [])).1 ∧ Txt w' a2 b2 d2 ((extractP (textsP yss) (claimP cnt idx xs text)).getD ([], [])).2) ∧ Below w.heap.size w w' := by
  have hk := heap_alloc_new w (.cells #[.int .i64 cnt, .int .i64 idx, .slice A1 m c1] 41)
  have hB0 := below_alloc (Below.refl w.heap.size w) (.cells #[.int .i64 cnt, .int .i64 idx, .slice A1 m c1] 41)
  have hs0 : (w.alloc (.cells #[.int .i64 cnt, .int .i64 idx, .slice A1 m c1] 41)).heap.size = w.heap.size + 1 := Array.size_push _
  obtain ⟨W0, hW0⟩ : ∃ W, w.alloc (.cells #[.int .i64 cnt, .int .i64 idx, .slice A1 m c1] 41) = W := ⟨_, rfl⟩
  rw [hW0] at hk hB0 hs0
  have HW0 := Lib.hid hW0
  have HI9 := Lib.hid (And.intro Tryd.underlying41 (zero_of_info infoB9).2)
  have hk1 := heap_alloc_new W0 (.map #[] 0)
  have hB1 := below_alloc hB0 (.map #[] 0)
  have hk0 := blk_alloc hk (.map #[] 0)
  obtain ⟨b, hb⟩ : ∃ b, W0.heap.size = b := ⟨_, rfl⟩
  have hmk : (Instr.makeMap 90 none).run Tryd.prog W0 = .ok (.map (some b)) (W0.alloc (.map #[] 0)) := by rw [← hb]; exact run_makeMap _ _
  have hs1 : (W0.alloc (.map #[] 0)).heap.size = b + 1 := by rw [← hb]; exact Array.size_push _
  rw [hb] at hk1
  obtain ⟨W1, hW1⟩ : ∃ W, W0.alloc (.map #[] 0) = W := ⟨_, rfl⟩
  rw [hW1] at hk1 hB1 hk0 hmk hs1
  have HX := Lib.hid (texts10_calls A n c yss W1 hn (Kd.C_below hr hB1) hl hy (hK.below hB1 (Nat.le_refl _)))
  have HTO := Lib.hid (And.intro (textsP_ok hy) (textsP_len (yss := yss) (by omega)))
  have HMB := Lib.hid (And.intro hk1 (And.intro hk0 (And.intro hB1 hs1)))
  have hbw : w.heap.size < b := by omega
  have HBW := Lib.hid hbw
  have HK := Lib.hid hK
  have HT := Lib.hid (And.intro ht htb)
  have HCL := Lib.hid (And.intro hm (And.intro hr1 (And.intro hc1 (And.intro hm2 hH))))
  obtain ⟨tx, htx⟩ : ∃ t, textsP yss = t := ⟨_, rfl⟩
  obtain ⟨cl, hcl⟩ : ∃ t, claimP cnt idx xs text = t := ⟨_, rfl⟩
  have HCE := Lib.hid (show ∀ u : World, Below w.heap.size w u → Calls Tryd.prog 46 #[.slice A0 m0 c0, bV cnt idx A1 m c1] u fun e w' => ∃ v, e = .returned v ∧ Kd.R kBs 33 w' u.heap.size (fun _ => True) v cl ∧ Below u.heap.size u w' from fun u hu => by
    rw [← hcl]
    exact claim10_calls A0 m0 c0 text cnt idx A1 m c1 xs u HT.out.1.1 (Kd.C_below HT.out.1.2.2 hu) HT.out.1.2.1 HT.out.2 HCL.out.1 (Kd.C_below HCL.out.2.1 hu) HCL.out.2.2.1 HCL.out.2.2.2.1 HCL.out.2.2.2.2 (HK.out.below hu (Nat.le_refl _)) h0 h1)
  have HCO := Lib.hid (show (∀ ys ∈ cl, okT ys) ∧ cl.length ≤ 1001 from by
    rw [← hcl]
    exact ⟨claimP_ok hH htb, by have := claimP_len cnt idx xs text; omega⟩)
  rw [htx] at HX HTO ⊢
  rw [hcl]
  clear hk hB0 hs0 hW0 hk1 hB1 hk0 hs1 hW1 hn hr hl hy ht htb hm hr1 hc1 hm2 hH hK h0 h1 htx hcl hb hbw
  unfold bV at HCE ⊢
  obtain ⟨E, hE⟩ : ∃ E, extractP tx cl = E := ⟨_, rfl⟩
  rw [hE]
  have HE := Lib.hid hE
  clear hE
  rw [← HW0.out] at hmk
  go_enter Tryd.func48, Tryd.ntmps48
  go_wp2_with fail
  refine HX.out.mono ?_
  rintro e W2 ⟨v2, rfl, hv2, hb2⟩
  obtain ⟨At, ct, rfl⟩ := Kd.R_slice hv2
  obtain ⟨nt, hnt⟩ : ∃ q, tx.length = q := ⟨_, rfl⟩
  rw [hnt] at hv2 ⊢
  have hmap := (hb2.block b (blk_lt HMB.out.1)).trans HMB.out.1
  have hbox := (hb2.block _ (blk_lt HMB.out.2.1)).trans HMB.out.2.1
  have hsz := hb2.size
  have hs9 := HMB.out.2.2.2
  have hbB : b < W2.heap.size := blk_lt hmap
  have HNT := Lib.hid (And.intro hnt (show nt ≤ 11000 from by rw [← hnt]; exact HTO.out.2))
  have HTX := Lib.hid (Kd.R_reads' hv2).2.2
  have HB2 := Lib.hid (HMB.out.2.2.1.trans (Below.mono hb2 HMB.out.2.2.1.size))
  have HMP := Lib.hid (And.intro hmap (And.intro hbox hbB))
  clear hmk HMB HX hv2 hb2 hnt hmap hbox hsz hs9 hbB
  go_wp2_with fail
  go_loopw [21] (fun vk wr => ∃ (k : Nat) (L : List (List Int × Value)) (ps : List (List Int × Tri)), vk = .int .i64 (k : Int) ∧ Hid (k ≤ nt ∧ Grp wr b W2.heap.size L ps ∧ Kp W2 b wr ∧ W2.heap.size ≤ wr.heap.size ∧ ps.map (·.1) = tx.take k ∧ (∀ p ∈ ps, Txt W2 p.2.1 p.2.2.1 p.2.2.2 p.1) ∧ Below w.heap.size w wr)) (fun vk _ => nt + 1 - (intOf vk).toNat)
  case atStart => exact ⟨0, [], [], rfl, Lib.hid ⟨Nat.zero_le _, Grp.nil HMP.out.1, ⟨⟨_, _, HMP.out.1⟩, fun _ _ _ => rfl⟩, Nat.le_refl _, rfl, by simp, HB2.out⟩⟩
  case round =>
    obtain ⟨k, L, ps, rfl, H⟩ := hrel
    by_cases hlt : k < nt
    · obtain ⟨hkn, hG, hKp, hsz, hps, hpt, hBw⟩ := H.out
      have hkt : k < tx.length := by rw [HNT.out.1]; exact hlt
      obtain ⟨ad, Ai, q, ci, rfl, hcell, hTi⟩ := C_txt HTX.out hkt
      have hok := HTO.out.1 _ (List.getElem_mem hkt)
      have htk : tx.take (k + 1) = tx.take k ++ [tx[k]] := List.take_succ_eq_append_getElem hkt
      obtain ⟨ys, hys⟩ : ∃ ys, tx[k] = ys := ⟨_, rfl⟩
      rw [hys] at hTi hok htk
      have hld := run_load_bs wr (ad.add k) _ (hKp.cell hcell)
      have hb1 := fun A m c u => run_build1t A m c u
      have HTW := Lib.hid (twice_one (u := wr) (hTi.kp hKp) hok HK.out hBw)
      have HGR := Lib.hid hG
      have HKP := Lib.hid (And.intro hKp hsz)
      have HPS := Lib.hid (And.intro hps (And.intro hpt (And.intro hTi htk)))
      have HBR := Lib.hid hBw
      have gk : (k : Int) < (nt : Int) := by omega
      have gk0 : (0 : Int) ≤ (k : Int) := by omega
      clear H hkn hG hKp hsz hps hpt hBw hcell hTi hok htk hys hkt
      go_wp2_with fail
      refine HTW.out.mono ?_
      rintro e w5 ⟨rfl, hb5⟩
      have hb6 := (below_alloc (Below.refl wr.heap.size wr) (.cells #[.slice Ai q ci] 33)).trans (Below.mono hb5 (below_alloc (Below.refl wr.heap.size wr) (.cells #[.slice Ai q ci] 33)).size)
      have HBA := Lib.hid (below_alloc hb6 (.cells (nums .u8 (twiceP ys)).toArray 25))
      have HKA := Lib.hid (heap_alloc_new w5 (.cells (nums .u8 (twiceP ys)).toArray 25))
      clear hb5 hb6 hb1 hld HTW
      have HF := Lib.hid (show ∀ X : List Int, X.length = 32 → (Tryd.prog.info? 25).map (·.size) = some (nums .u8 X).length ∧ (Tryd.prog.info? 25).map (·.size) = some (nums .u8 X).toArray.size ∧ (nums .u8 X).toArray.size = 32 ∧ (nums .u8 X).toArray.all (·.oneCell') = true from fun X h => ⟨by rw [nums_len, h]; exact (zero_of_info infoHash).2, by rw [List.size_toArray, nums_len, h]; exact (zero_of_info infoHash).2, by rw [List.size_toArray, nums_len, h], all_oneCell_toArray (nums_one _ _)⟩)
      have hzH := (zero_of_info infoHash).1
      obtain ⟨Z, hZ⟩ : ∃ X, (nums .u8 (List.replicate 32 0)).toArray = X := ⟨_, rfl⟩
      have hZs : Z.size = 32 := by rw [← hZ]; rfl
      rw [hZ] at hzH
      obtain ⟨h, hh⟩ : ∃ h, twiceP ys = h := ⟨_, rfl⟩
      have hhl : h.length = 32 := by rw [← hh]; exact twiceP_len ys
      have HH := Lib.hid (And.intro hh hhl)
      rw [hh] at HBA HKA ⊢
      have HI4 := Lib.hid (HF.out h hhl)
      have HS4 := Lib.hid (show Z.size = (nums .u8 h).toArray.size from by rw [hZs, HI4.out.2.2.1])
      clear hZ hZs hh hhl
      obtain ⟨W6, hW6⟩ : ∃ W, w5.alloc (.cells (nums .u8 h).toArray 25) = W := ⟨_, rfl⟩
      rw [hW6] at HBA HKA
      have HW6 := Lib.hid hW6
      have HG6 := Lib.hid (HGR.out.move (HBA.out.block b (blk_lt HGR.out.at_)) (fun k _ hk => HBA.out.block k hk))
      have HK6 := Lib.hid (show Kp W2 b W6 ∧ W2.heap.size ≤ W6.heap.size from ⟨⟨HKP.out.1.1, fun k hk hne => (HBA.out.block k (Nat.lt_of_lt_of_le hk HKP.out.2)).trans (HKP.out.1.2 k hk hne)⟩, Nat.le_trans HKP.out.2 HBA.out.size⟩)
      have HB6 := Lib.hid (HBR.out.trans (Below.mono HBA.out HBR.out.size))
      have hu := Tryd.underlying25
      clear hW6 HBA HGR HKP HBR
      have hb1 := fun A m c u => run_build1t A m c u
      obtain ⟨v0, i0, W7, xs0, hme, hs7, hR7, hl7, hst⟩ := step_both (u := w) (Ai, q, ci) (.cells #[.slice Ai q ci] 33) HG6.out HK6.out.1 HK6.out.2 HB6.out (Nat.le_of_lt HBW.out) HMP.out.2.2 HH.out.1 HH.out.2
      have HS7 := Lib.hid hs7
      have HR7 := Lib.hid hR7
      have HST := Lib.hid hst
      have HLT := Lib.hid (show (xs0.length + 1) * 24 ≤ 140737488355328 from by
        have h1 : (ps.map (·.1)).length = ps.length := List.length_map _
        rw [HPS.out.1, List.length_take] at h1
        have h2 := HNT.out.1
        have h3 := HNT.out.2
        omega)
      have HZ7 := Lib.hid (show W2.heap.size ≤ W7.heap.size from by rw [← hs7]; exact HK6.out.2)
      clear hs7 hR7 hst hl7 HG6 HK6 HB6
      rw [← HW6.out] at hme
      go_wp2_with (first
        | ((with_reducible show wpList _ _ _ (Oper.mk _ (Op.store _ (.tmp 12) _) _ _ _ _ :: _) _ _); (go_loud (refine wpl_store_new rfl 25 (.tmp 12) (.tmp 27) rfl Z (nums .u8 h).toArray rfl rfl HI4.out.2.1 HS4.out HI4.out.2.2.2 ?_)))
        | ((with_reducible show wpList _ _ _ (Oper.mk _ (Op.load _ (.tmp 12)) _ _ _ _ :: _) _ _); rw [HW6.out]; rw [HW6.out] at hme; (go_loud (refine wpList_load_row rfl 25 (.tmp 12) rfl w5.heap.size rfl 25 (nums .u8 h).toArray (0, 0) _ HKA.out hu rfl HI4.out.2.1 ?_)))
        | ((with_reducible refine gate_builtin (b := .append) (xs := #[.tmp 30, .tmp 32]) rfl ?_); at_builtin; refine Kd.R_append kS (w0 := W7) W2.heap.size rfl (.tmp 30) (.tmp 32) 62 33 (.slice none 0 0) 24 rfl Tryd.underlying62 infoBs rfl (by decide) (by decide) v0 xs0 (Ai, q, ci) [.slice Ai q ci] (fun k => W2.heap.size ≤ k) (fun _ => False) (by first | rfl | (go_simp; done) | (go_simp; rfl)) (by first | (go_simp; done) | (go_simp; rfl) | (go_simp; exact HS7.out) | (go_simp; rw [HS7.out])) rfl (fun _ h => h.elim) (fun k hk => Nat.le_trans HZ7.out hk) HR7.out (Below.refl _ _) HZ7.out HLT.out ?_; intro v8 w8 ho hb hg hat; obtain ⟨L9, W9, hes, hG9, hK9, hS9, hB9⟩ := HST.out v8 w8 ho hg hat; have HR9 := Lib.hid (And.intro hG9 (And.intro hK9 (And.intro hS9 hB9))); clear ho hb hg hat hG9 hK9 hS9 hB9))
      have hwk : wrap64 ((k : Int) + 1) = ((k + 1 : Nat) : Int) := by rw [IntWalk.wrap64_in _ ⟨by omega, by have := HNT.out.2; omega⟩]; omega
      rw [hwk]
      go_roundw
      case rel => exact ⟨k + 1, L9, ps ++ [(ys, (Ai, q, ci))], rfl, Lib.hid ⟨hlt, HR9.out.1, HR9.out.2.1, HR9.out.2.2.1, by rw [List.map_append, HPS.out.1, HPS.out.2.2.2]; rfl, fun p hp => by
        rcases List.mem_append.1 hp with hp | hp
        · exact HPS.out.2.1 p hp
        · obtain rfl := List.mem_singleton.1 hp
          exact HPS.out.2.2.1, HR9.out.2.2.2⟩⟩
      case measure =>
        simp only [intOf]
        omega
    · obtain ⟨hkn, hG, hKp, hsz, hps, hpt, hBw⟩ := H.out
      have gk : ¬ (k : Int) < (nt : Int) := by omega
      have hps2 : ps.map (·.1) = tx := by rw [hps, List.take_of_length_le (by rw [HNT.out.1]; omega)]
      have hboxr : wr.heap[w.heap.size]? = some (.cells #[.int .i64 cnt, .int .i64 idx, .slice A1 m c1] 41) := (hKp.2 _ (blk_lt HMP.out.2.1) (by have := HBW.out; omega)).trans HMP.out.2.1
      have HBX := Lib.hid hboxr
      have HGR := Lib.hid hG
      have HPT := Lib.hid (show ∀ p ∈ ps, Txt wr p.2.1 p.2.2.1 p.2.2.2 p.1 from fun p hp => (hpt p hp).kp hKp)
      have HPS := Lib.hid hps2
      have HBR := Lib.hid hBw
      have HCW := Lib.hid (HCE.out wr hBw)
      clear H hkn hG hKp hsz hps hpt hBw hps2 hboxr HTX
      go_wp2_with ((with_reducible show wpList _ _ _ (Oper.mk _ (Op.load _ (.tmp 5)) _ _ _ _ :: _) _ _); (go_loud (refine wpList_load_row rfl 41 (.tmp 5) rfl w.heap.size rfl 41 #[.int .i64 cnt, .int .i64 idx, .slice A1 m c1] (0, 0) _ HBX.out HI9.out.1 rfl HI9.out.2 ?_)))
      refine HCW.out.mono ?_
      rintro e W4 ⟨v4, rfl, hv4, hb4⟩
      obtain ⟨Ac, cc, rfl⟩ := Kd.R_slice hv4
      obtain ⟨nc, hnc⟩ : ∃ q, cl.length = q := ⟨_, rfl⟩
      rw [hnc] at hv4 ⊢
      have HNC := Lib.hid (And.intro hnc (show nc ≤ 1001 from by rw [← hnc]; exact HCO.out.2))
      have HC4 := Lib.hid (Kd.R_reads' hv4).2.2
      have HG4 := Lib.hid (HGR.out.move (hb4.block b (blk_lt HGR.out.at_)) (fun k _ hk => hb4.block k hk))
      have HPT4 := Lib.hid (show ∀ p ∈ ps, Txt W4 p.2.1 p.2.2.1 p.2.2.2 p.1 from fun p hp => (HPT.out p hp).below hb4)
      have HB4 := Lib.hid (HBR.out.trans (Below.mono hb4 HBR.out.size))
      clear HGR HPT HBR HCW HBX hv4 hb4 hnc
      go_wp2_with fail
      go_loopw [41] (fun vk wr => ∃ k : Nat, vk = .int .i64 (k : Int) ∧ Hid (k ≤ nc ∧ (∀ c ∈ cl.take k, pickT tx c = none) ∧ Below W4.heap.size W4 wr)) (fun vk _ => nc + 1 - (intOf vk).toNat)
      case atStart => exact ⟨0, rfl, Lib.hid ⟨Nat.zero_le _, by simp, Below.refl _ _⟩⟩
      case round =>
        obtain ⟨k, rfl, H⟩ := hrel
        by_cases hlt : k < nc
        · obtain ⟨hkn, hno, hBw⟩ := H.out
          have hkt : k < cl.length := by rw [HNC.out.1]; exact hlt
          obtain ⟨ad, Ai, q, ci, rfl, hcell, hTi⟩ := C_txt HC4.out hkt
          have hok := HCO.out.1 _ (List.getElem_mem hkt)
          obtain ⟨ys, hys⟩ : ∃ ys, cl[k] = ys := ⟨_, rfl⟩
          rw [hys] at hTi hok
          have HYS := Lib.hid hys
          have hld := run_load_bs wr (ad.add k) _ (pw_cell_below hBw hcell)
          have hb1 := fun A m c u => run_build1t A m c u
          have HTW := Lib.hid (twice_one (u := wr) (hTi.below hBw) hok HK.out (HB4.out.trans (Below.mono hBw HB4.out.size)))
          have HTI := Lib.hid (And.intro hTi hok)
          have HNO := Lib.hid hno
          have HBR := Lib.hid hBw
          have gk : (k : Int) < (nc : Int) := by omega
          have gk0 : (0 : Int) ≤ (k : Int) := by omega
          clear H hkn hno hBw hcell hTi hok hys
          go_wp2_with fail
          refine HTW.out.mono ?_
          rintro e w5 ⟨rfl, hb5⟩
          have hb6 := (below_alloc (Below.refl wr.heap.size wr) (.cells #[.slice Ai q ci] 33)).trans (Below.mono hb5 (below_alloc (Below.refl wr.heap.size wr) (.cells #[.slice Ai q ci] 33)).size)
          have HB5 := Lib.hid (HBR.out.trans (Below.mono hb6 HBR.out.size))
          obtain ⟨A5, m5, c5, he5, hm5, hC5⟩ := HG4.out.look (twiceP ys)
          have hlk : (Instr.lookup 90 (.map (some b)) (.agg (nums .u8 (twiceP ys)).toArray) false).run Tryd.prog w5 = .ok (.slice A5 m5 c5) w5 := (run_lookup9 b (twiceP ys) (twiceP_len ys) L L.length w5 ((HB5.out.block b (blk_lt HG4.out.at_)).trans HG4.out.at_) HG4.out.len).trans (congrArg (fun v => Result.ok v w5) he5)
          rw [sel_fam, List.length_map] at hm5
          rw [sel_fam] at hC5
          have HM5 := Lib.hid (And.intro hm5 hC5)
          clear hb5 hb6 HTW hld hb1 he5 hm5 hC5
          go_wp2_with fail
          go_loopw [51] (fun vk wr => ∃ j : Nat, vk = .int .i64 (j : Int) ∧ Hid (j ≤ m5 ∧ (∀ p ∈ (fam ps ys).take j, p.1 = ys) ∧ Below W4.heap.size W4 wr)) (fun vk _ => m5 + 1 - (intOf vk).toNat)
          case atStart => exact ⟨0, rfl, Lib.hid ⟨Nat.zero_le _, by simp, HB5.out⟩⟩
          case round =>
            obtain ⟨j, rfl, H⟩ := hrel
            by_cases hjm : j < m5
            · obtain ⟨hjn, hal, hBw⟩ := H.out
              have hjf : j < (fam ps ys).length := by rw [← HM5.out.1]; exact hjm
              obtain ⟨ad5, rfl, hcell⟩ := C_tri HM5.out.2 (i := j) (by rw [List.length_map]; exact hjf)
              rw [List.getElem_map] at hcell
              have hmem : (fam ps ys)[j] ∈ ps := (List.mem_filter.1 (List.getElem_mem hjf)).1
              have hTj := HPT4.out _ hmem
              have hokj : okT ((fam ps ys)[j]).1 := HTO.out.1 _ (by rw [← HPS.out]; exact List.mem_map_of_mem hmem)
              obtain ⟨⟨zs, Aj, qj, cj⟩, hp⟩ : ∃ p, (fam ps ys)[j] = p := ⟨_, rfl⟩
              rw [hp] at hcell hTj hokj
              have hcell : W4.cell? (ad5.add j) = some (.slice Aj qj cj) := hcell
              have hTj : Txt W4 Aj qj cj zs := hTj
              have hokj : okT zs := hokj
              have hld := run_load_bs wr (ad5.add j) _ (pw_cell_below hBw hcell)
              have HEQ := Lib.hid (equal10_calls Ai Aj q ci qj cj ys zs wr (HTI.out.1.below hBw) (hTj.below hBw) HTI.out.2.1 hokj.1)
              have HTJ := Lib.hid (And.intro hTj hokj)
              have HJF := Lib.hid (And.intro hjf hp)
              have HPL := Lib.hid (show (fam ps ys).length ≤ 11000 from by
                have h1 : (fam ps ys).length ≤ ps.length := List.length_filter_le _ _
                have h2 : (ps.map (·.1)).length = ps.length := List.length_map _
                rw [HPS.out] at h2
                have h3 := HTO.out.2
                omega)
              have HAL := Lib.hid hal
              have HBR2 := Lib.hid hBw
              have gj : (j : Int) < (m5 : Int) := by omega
              have gj0 : (0 : Int) ≤ (j : Int) := by omega
              clear H hjn hal hBw hcell hTj hokj hmem hlk hp
              by_cases heq : ys = zs
              · rw [show decide (ys = zs) = true from decide_eq_true heq] at HEQ
                have HQQ := Lib.hid heq
                clear heq
                go_wp2_with fail
                refine HEQ.out.mono ?_
                rintro e w7 ⟨rfl, hb7⟩
                have HB7 := Lib.hid (HBR2.out.trans (Below.mono hb7 HBR2.out.size))
                clear hb7 hld HEQ
                go_wp2_with fail
                have hwj : wrap64 ((j : Int) + 1) = ((j + 1 : Nat) : Int) := by rw [IntWalk.wrap64_in _ ⟨by omega, by have h1 := HM5.out.1; have h2 := HJF.out.1; have h3 := HPL.out; omega⟩]; omega
                try rw [hwj]
                go_roundw
                case rel => exact ⟨j + 1, rfl, Lib.hid ⟨hjm, take_one HJF.out.1 HAL.out (by rw [HJF.out.2]; exact HQQ.out.symm), HB7.out⟩⟩
                case measure =>
                  show m5 + 1 - (intOf (.int .i64 ((j + 1 : Nat) : Int))).toNat < m5 + 1 - (intOf (.int .i64 (j : Int))).toNat
                  simp only [intOf]
                  omega
              · rw [show decide (ys = zs) = false from decide_eq_false heq] at HEQ
                go_wp2_with fail
                refine HEQ.out.mono ?_
                rintro e w7 ⟨rfl, hb7⟩
                have HB7 := Lib.hid (HBR2.out.trans (Below.mono hb7 HBR2.out.size))
                have HCN := Lib.hid (clone_calls Aj qj cj zs w7 HTJ.out.1.1 (HTJ.out.1.below HB7.out).2.2 HTJ.out.1.2.1 (by have := HTJ.out.2.2; omega))
                clear hb7 hld HEQ
                go_wp2_with fail
                refine HCN.out.mono ?_
                rintro e w8 ⟨v8, rfl, hv8, hb8⟩
                obtain ⟨A8, c8, rfl⟩ := Kd.R_slice hv8
                have HB8 := Lib.hid (HB7.out.trans (Below.mono hb8 HB7.out.size))
                have HT8 := Lib.hid (show Txt w8 A8 zs.length c8 zs from ⟨rfl, (Kd.R_reads' hv8).2.1, (Kd.R_reads' hv8).2.2⟩)
                have hEE : E = some (ys, zs) := by
                  have h1 := pick_some HJF.out.1 HAL.out (by rw [HJF.out.2]; exact fun e => heq e.symm)
                  rw [HPS.out, HJF.out.2] at h1
                  have h2 := extract_some (texts := tx) (claims := cl) (k := k) (t := zs) (by rw [HNC.out.1]; exact hlt) HNO.out (by rw [HYS.out]; exact h1)
                  rw [HYS.out, HE.out] at h2
                  exact h2
                subst hEE
                clear hv8 hb8
                go_wp2_with fail
                go_ret3
                exact ⟨⟨_, _, _, _, _, _, rfl, HTI.out.1.below HB8.out, HT8.out⟩, HB4.out.trans (Below.mono HB8.out HB4.out.size)⟩
            · obtain ⟨hjn, hal, hBw⟩ := H.out
              have gj : ¬ (j : Int) < (m5 : Int) := by omega
              have HPN := Lib.hid (show pickT tx ys = none from by
                have h1 : (fam ps ys).take j = fam ps ys := List.take_of_length_le (by rw [← HM5.out.1]; omega)
                rw [h1] at hal
                rw [← HPS.out]
                exact pick_none hal)
              have HBR2 := Lib.hid hBw
              clear H hjn hal hBw hlk
              go_wp2_with fail
              have hwk : wrap64 ((k : Int) + 1) = ((k + 1 : Nat) : Int) := by rw [IntWalk.wrap64_in _ ⟨by omega, by have := HNC.out.2; omega⟩]; omega
              try rw [hwk]
              go_roundw
              case rel => exact ⟨k + 1, (by first | rfl | rw [hwk]), Lib.hid ⟨hlt, take_one (by rw [HNC.out.1]; exact hlt) HNO.out (by rw [HYS.out]; exact HPN.out), HBR2.out⟩⟩
              case measure =>
                simp only [intOf]
                omega
        · obtain ⟨hkn, hno, hBw⟩ := H.out
          have gk : ¬ (k : Int) < (nc : Int) := by omega
          have hEE : E = none := by
            have h1 : cl.take k = cl := List.take_of_length_le (by rw [HNC.out.1]; omega)
            rw [h1] at hno
            exact HE.out.symm.trans (extract_none hno)
          subst hEE
          have HBR := Lib.hid hBw
          clear H hkn hno hBw
          go_wp2_with fail
          go_ret3
          exact ⟨⟨_, _, _, _, _, _, rfl, ⟨rfl, Nat.zero_le _, Kd.C_nil _ _⟩, ⟨rfl, Nat.zero_le _, Kd.C_nil _ _⟩⟩, HB4.out.trans (Below.mono HBR.out HB4.out.size)⟩
end Go.Proofs.YtlmcdkjobdcflaaDoor.Hand


/- The document's example of chapter 10: walked (mastheadlaw10.awake). -/
namespace Go.Proofs.YtlmcdkjobdcflaaDoor.Hand
open Go Go.RowKit Go.Proofs.YtlmcdkjobdcflaaDoor.Plain Go.Proofs.YtlmcdkjobdcflaaDoor.PAll Go.Proofs.YtlmcdkjobdcflaaDoorW.PrintWords Go.Proofs.YtlmcdkjobdcflaaDoorW.PrintLast Go.Proofs.YtlmcdkjobdcflaaDoorW.PrintMore
set_option linter.unusedVariables false
set_option linter.unusedSimpArgs false
set_option maxRecDepth 100000
attribute [local go_sem ↓] Go.wp_at_zero Go.wp_at_succ
attribute [-go_sem] loadVar storeVar Instr.buildSlice
theorem depth1 : depthP 1 = 0 := IsDepth.unique (depthP_is 1) ⟨by decide, fun i hi => absurd hi (by omega)⟩
theorem depth2 : depthP 2 = 1 := IsDepth.unique (depthP_is 2) ⟨by decide, fun i hi => by
  obtain rfl : i = 0 := by omega
  decide⟩
theorem texts_one (y : List Int) : textsP [y] = [y] := by
  unfold textsP
  rw [List.length_singleton, depth1]
  rfl
theorem texts_two (y z : List Int) : ∃ t, textsP [y, z] = [y, z, t] ∧ t.length = 64 := by
  have hH : Hs ([y, z].map twiceP) := fun p hp => by
    obtain ⟨x, _, rfl⟩ := List.mem_map.1 hp
    exact ⟨twiceP_len _, twiceP_bytes _⟩
  refine ⟨pairT ([y, z].map twiceP) 0, ?_, ?_⟩
  · have h1 : rowT ([y, z].map twiceP) = [pairT ([y, z].map twiceP) 0] := by
      unfold rowT
      rw [List.length_map, show ([y, z].length + 1) / 2 = 1 from by simp, List.range_one]
      rfl
    unfold textsP
    rw [show [y, z].length = 2 from rfl, depth2, textsAt, textsAt, lev, h1]
    rfl
  · unfold pairT
    rw [List.length_append, (hH.any _).1, (hH.any _).1]
theorem claim_one (y : List Int) : claimP 1 0 [] y = [y] := by
  have hb : brightP 1 0 ([] : List (List Int)).length = 0 := by
    have e : (1 : Int).toNat = 1 := rfl
    unfold brightP
    rw [e, depth1]
    rfl
  unfold claimP
  rw [hb]
  rfl
theorem extract_one (y : List Int) : extractP [y] [y] = none := by
  refine extract_none (fun c hc => ?_)
  obtain rfl := List.mem_singleton.1 hc
  unfold pickT
  simp
theorem run_build1u (W : World) : (Instr.buildSlice 33 1 #[(0, .int .u8 1)]).run Tryd.prog W = .ok (.slice (some ⟨W.heap.size, 0, none⟩) 1 1) (W.alloc (.cells #[.int .u8 1] 5)) := by kernel_rfl
theorem run_build2u (W : World) : (Instr.buildSlice 33 1 #[(0, .int .u8 2)]).run Tryd.prog W = .ok (.slice (some ⟨W.heap.size, 0, none⟩) 1 1) (W.alloc (.cells #[.int .u8 2] 5)) := by kernel_rfl
theorem built_b1 : Tryd.prog.built 41 [(0, .int .i64 1)] = some #[.int .i64 1, .int .i64 0, .slice none 0 0] := by kernel_rfl
theorem C_u1 {w : World} {g : Nat} {x : Int} {t : TypeId} (h : w.heap[g]? = some (.cells #[.int .u8 x] t (0, 0))) : Kd.C (Kd.int .u8) w (some ⟨g, 0, none⟩) 1 [x] :=
  C_of_block (pre := []) (post := []) (k := .u8) (ys := [x]) (o := 0) (t := t) (fr := (0, 0)) (w := w) (b := g) h rfl (by simp)
theorem okT_one {x : Int} (h : 0 ≤ x ∧ x < 256) : okT [x] := ⟨fun y hy => by
  obtain rfl := List.mem_singleton.1 hy
  exact h, by simp⟩
theorem alloc4 (w : World) (a b c d : Obj) : ((((w.alloc a).alloc b).alloc c).alloc d).heap[w.heap.size]? = some a ∧ ((((w.alloc a).alloc b).alloc c).alloc d).heap[w.heap.size + 1]? = some b ∧ ((((w.alloc a).alloc b).alloc c).alloc d).heap[w.heap.size + 1 + 1]? = some c ∧ ((((w.alloc a).alloc b).alloc c).alloc d).heap[w.heap.size + 1 + 1 + 1]? = some d := by
  obtain ⟨h1, h2, h3⟩ := alloc3 w a b c
  have s1 : (((w.alloc a).alloc b).alloc c).heap.size = w.heap.size + 1 + 1 + 1 := by
    show (((w.heap.push a).push b).push c).size = _
    simp
  refine ⟨blk_alloc h1 d, blk_alloc h2 d, blk_alloc h3 d, ?_⟩
  have h := heap_alloc_new (((w.alloc a).alloc b).alloc c) d
  rwa [s1] at h
set_option maxHeartbeats 4000000 in
theorem awake10_calls (w : World) (hK : KT w) : Calls Tryd.prog 41 #[] w fun e w' => e = .returned (.bool true) ∧ Below w.heap.size w w' := by
  have HI9 := Lib.hid (And.intro Tryd.underlying41 (zero_of_info infoB9).2)
  have HK := Lib.hid hK
  have hk0 := heap_alloc_new w (.cells #[.int .i64 1, .int .i64 0, .slice none 0 0] 41)
  have hB0 := below_alloc (Below.refl w.heap.size w) (.cells #[.int .i64 1, .int .i64 0, .slice none 0 0] 41)
  have hs0 : (w.alloc (.cells #[.int .i64 1, .int .i64 0, .slice none 0 0] 41)).heap.size = w.heap.size + 1 := Array.size_push _
  have HBI := Lib.hid (And.intro hk0 (And.intro hB0 hs0))
  have HZB := (zero_of_info infoB9).1
  have hu1 := run_build1u
  have hu2 := run_build2u
  have ht1 := fun A m c u => run_build1t A m c u
  obtain ⟨a0, a1, a2, a3⟩ := alloc4 w (.cells #[.int .i64 1, .int .i64 0, .slice none 0 0] 41) (.cells #[.int .u8 1] 5) (.cells #[.slice (some ⟨w.heap.size + 1, 0, none⟩) 1 1] 33) (.cells #[.int .u8 1] 5)
  have hB3 := below_alloc (below_alloc (below_alloc (below_alloc (Below.refl w.heap.size w) (.cells #[.int .i64 1, .int .i64 0, .slice none 0 0] 41)) (.cells #[.int .u8 1] 5)) (.cells #[.slice (some ⟨w.heap.size + 1, 0, none⟩) 1 1] 33)) (.cells #[.int .u8 1] 5)
  have hld := run_loadVar_row (P := Tryd.prog) _ w.heap.size 41 41 _ (0, 0) _ a0 HI9.out.1 rfl HI9.out.2
  obtain ⟨W3, hW3⟩ : ∃ W, (((w.alloc (.cells #[.int .i64 1, .int .i64 0, .slice none 0 0] 41)).alloc (.cells #[.int .u8 1] 5)).alloc (.cells #[.slice (some ⟨w.heap.size + 1, 0, none⟩) 1 1] 33)).alloc (.cells #[.int .u8 1] 5) = W := ⟨_, rfl⟩
  rw [hW3] at a0 a1 a2 a3 hB3
  have HX := Lib.hid (show Calls Tryd.prog 48 #[.slice (some ⟨w.heap.size + 1 + 1, 0, none⟩) 1 1, .slice (some ⟨w.heap.size + 1 + 1 + 1, 0, none⟩) 1 1, .agg #[.int .i64 1, .int .i64 0, .slice none 0 0]] W3 fun e w' => (∃ x1 x2, e = .returned (.tuple #[x1, x2, .bool false])) ∧ Below W3.heap.size W3 w' from by
    have h9 := extract10_calls (some ⟨w.heap.size + 1 + 1, 0, none⟩) 1 1 [[1]] (some ⟨w.heap.size + 1 + 1 + 1, 0, none⟩) 1 1 [1] 1 0 none 0 0 [] W3 rfl (C_one (A := some ⟨w.heap.size + 1, 0, none⟩) (c := 1) (ys := [1]) a2 (Nat.le_refl _) (C_u1 a1)) (by decide) (fun ys h => by
      obtain rfl := List.mem_singleton.1 h
      exact okT_one (by decide)) ⟨rfl, Nat.le_refl _, C_u1 a3⟩ (okT_one (by decide)) rfl (Kd.C_nil _ _) (Nat.le_refl _) (by decide) (fun p hp => by cases hp) (HK.out.below hB3 (Nat.le_refl _)) (by decide) (by decide)
    refine h9.mono ?_
    rintro e w' ⟨⟨x1, y1, z1, x2, y2, z2, rfl, _, _⟩, hb⟩
    rw [texts_one, claim_one, extract_one]
    exact ⟨⟨_, _, rfl⟩, hb⟩)
  have HA0 := Lib.hid a0
  have HB3 := Lib.hid hB3
  have HW3 := Lib.hid hW3
  clear a0 a1 a2 a3 hB3 hW3
  have ht2 := fun A A2 m c m2 c2 u => run_build2t A A2 m c m2 c2 u
  clear hK hk0 hB0 hs0
  go_enter Tryd.func41, Tryd.ntmps41
  go_wp2_with (first
    | ((with_reducible show wpList _ _ _ (Oper.mk _ (Op.build _ _) _ _ _ _ :: _) _ _); (go_loud (refine wpl_build rfl 41 _ rfl #[(0, .int .i64 1)] (by simp [Act.eval]) #[.int .i64 1, .int .i64 0, .slice none 0 0] built_b1 ?_)))
    | ((with_reducible show wpList _ _ _ (Oper.mk _ (Op.store _ (.tmp 1) _) _ _ _ _ :: _) _ _); (go_loud (refine wpl_store_new rfl 41 (.tmp 1) (.tmp 6) rfl #[.int .i64 0, .int .i64 0, .slice none 0 0] #[.int .i64 1, .int .i64 0, .slice none 0 0] rfl rfl HI9.out.2 rfl (by simp [Value.oneCell']) ?_))))
  rw [HW3.out]
  refine HX.out.mono ?_
  rintro e w5 ⟨⟨x1, x2, rfl⟩, hb5⟩
  have HB5 := Lib.hid (HB3.out.trans (Below.mono hb5 HB3.out.size))
  have HA5 := Lib.hid ((hb5.block _ (blk_lt HA0.out)).trans HA0.out)
  obtain ⟨c0, c1, c2⟩ := alloc3 w5 (.cells #[.int .u8 1] 5) (.cells #[.int .u8 2] 5) (.cells #[.slice (some ⟨w5.heap.size, 0, none⟩) 1 1, .slice (some ⟨w5.heap.size + 1, 0, none⟩) 1 1] 33)
  have hB6 := below_alloc (below_alloc (below_alloc (Below.refl w5.heap.size w5) (.cells #[.int .u8 1] 5)) (.cells #[.int .u8 2] 5)) (.cells #[.slice (some ⟨w5.heap.size, 0, none⟩) 1 1, .slice (some ⟨w5.heap.size + 1, 0, none⟩) 1 1] 33)
  obtain ⟨W6, hW6⟩ : ∃ W, ((w5.alloc (.cells #[.int .u8 1] 5)).alloc (.cells #[.int .u8 2] 5)).alloc (.cells #[.slice (some ⟨w5.heap.size, 0, none⟩) 1 1, .slice (some ⟨w5.heap.size + 1, 0, none⟩) 1 1] 33) = W := ⟨_, rfl⟩
  rw [hW6] at c0 c1 c2 hB6
  have HTX := Lib.hid (texts10_calls (some ⟨w5.heap.size + 1 + 1, 0, none⟩) 2 2 [[1], [2]] W6 rfl (C_row2 c2 (Nat.le_refl _) (C_u1 c0) (Nat.le_refl _) (C_u1 c1)) (by decide) (fun ys h => by
    rcases (by simpa using h : ys = [1] ∨ ys = [2]) with rfl | rfl <;> exact okT_one (by decide)) (HK.out.below (HB5.out.trans (Below.mono hB6 HB5.out.size)) (Nat.le_refl _)))
  obtain ⟨t, ht, ht64⟩ := texts_two [1] [2]
  rw [ht] at HTX
  have HW6 := Lib.hid hW6
  have HB6 := Lib.hid hB6
  have HT64 := Lib.hid ht64
  clear hb5 c0 c1 c2 hW6 hB6 ht HX ht64 hld
  go_wp2_with fail
  rw [HW6.out]
  refine HTX.out.mono ?_
  rintro e w7 ⟨v7, rfl, hv7, hb7⟩
  obtain ⟨A7, c7, rfl⟩ := Kd.R_slice hv7
  obtain ⟨ad, A8, m8, c8, e8, hcell, hT8⟩ := C_txt (i := 2) (Kd.R_reads' hv7).2.2 (show 2 < 3 by decide)
  obtain rfl := e8
  have hT8 : Txt w7 A8 m8 c8 t := hT8
  have hm8 : m8 = 64 := hT8.1.trans HT64.out
  subst hm8
  have hld2 : (loadVar 33 ⟨ad.block, ad.off + 2, none⟩).run Tryd.prog w7 = .ok (.slice A8 64 c8) w7 := run_load_bs w7 (ad.add 2) _ hcell
  have hB7 := HB6.out.trans (Below.mono hb7 HB6.out.size)
  have HB7 := Lib.hid (HB5.out.trans (Below.mono hB7 HB5.out.size))
  have hA7 := (hB7.block _ (blk_lt HA5.out)).trans HA5.out
  have hk8 := heap_alloc_new w7 (.cells #[.int .u8 1] 5)
  have hA8 := blk_alloc hA7 (.cells #[.int .u8 1] 5)
  have hB8 := below_alloc HB7.out (.cells #[.int .u8 1] 5)
  have hld3 := run_loadVar_row (P := Tryd.prog) _ w.heap.size 41 41 _ (0, 0) _ hA8 HI9.out.1 rfl HI9.out.2
  obtain ⟨W8, hW8⟩ : ∃ W, w7.alloc (.cells #[.int .u8 1] 5) = W := ⟨_, rfl⟩
  rw [hW8] at hk8 hB8
  have HCL := Lib.hid (claim10_calls (some ⟨w7.heap.size, 0, none⟩) 1 1 [1] 1 0 none 0 0 [] W8 rfl (C_u1 hk8) (Nat.le_refl _) (okT_one (by decide)) rfl (Kd.C_nil _ _) (Nat.le_refl _) (by decide) (fun p hp => by cases hp) (HK.out.below hB8 (Nat.le_refl _)) (by decide) (by decide))
  rw [claim_one] at HCL
  have HW8 := Lib.hid hW8
  have HB8 := Lib.hid hB8
  clear hv7 hcell hT8 hB7 hA7 hk8 hA8 hB8 hW8 hb7 HTX
  go_wp2_with fail
  rw [HW8.out]
  refine HCL.out.mono ?_
  rintro e w9 ⟨v9, rfl, hv9, hb9⟩
  obtain ⟨A9, c9, rfl⟩ := Kd.R_slice hv9
  have HB9 := Lib.hid (HB8.out.trans (Below.mono hb9 HB8.out.size))
  clear hv9 hb9
  go_wp2_with fail
  go_ret
  exact ⟨rfl, HB9.out⟩
end Go.Proofs.YtlmcdkjobdcflaaDoor.Hand


/- May a case be gone through: walked (mastheadlaw10.small). -/
namespace Go.Proofs.YtlmcdkjobdcflaaDoor.Hand
open Go Go.RowKit Go.Proofs.YtlmcdkjobdcflaaDoor.Plain Go.Proofs.YtlmcdkjobdcflaaDoor.PAll Go.Proofs.YtlmcdkjobdcflaaDoorW.PrintWords Go.Proofs.YtlmcdkjobdcflaaDoorW.PrintLast Go.Proofs.YtlmcdkjobdcflaaDoorW.PrintMore
set_option linter.unusedVariables false
set_option linter.unusedSimpArgs false
set_option maxRecDepth 100000
attribute [local go_sem ↓] Go.wp_at_zero Go.wp_at_succ
/-- A case's cells. -/
def caseC (A : Option Addr) (n c : Nat) (A0 : Option Addr) (m0 c0 : Nat) (cnt idx : Int) (A1 : Option Addr) (m c1 : Nat) : Array Value := #[.slice A n c, .slice A0 m0 c0, .int .i64 cnt, .int .i64 idx, .slice A1 m c1]
def smallP (m0 m : Nat) (yss : List (List Int)) : Bool := decide (yss.length ≤ 9 ∧ m0 ≤ 200 ∧ m ≤ 20 ∧ ∀ ys ∈ yss, ys.length ≤ 200)
set_option maxHeartbeats 4000000 in
theorem small10_calls (A : Option Addr) (n c : Nat) (yss : List (List Int)) (A0 : Option Addr) (m0 c0 : Nat) (cnt idx : Int) (A1 : Option Addr) (m c1 : Nat) (w : World) (hn : n = yss.length) (hr : Kd.C kBs w A n yss) :
    Calls Tryd.prog 40 #[.agg (caseC A n c A0 m0 c0 cnt idx A1 m c1)] w fun e w' => e = .returned (.bool (smallP m0 m yss)) ∧ Below w.heap.size w w' := by
  obtain ⟨S, hS⟩ : ∃ S, smallP m0 m yss = S := ⟨_, rfl⟩
  rw [hS]
  unfold caseC
  have hk := heap_alloc_new w (.cells #[.slice A n c, .slice A0 m0 c0, .int .i64 cnt, .int .i64 idx, .slice A1 m c1] 64)
  have k0 : (w.alloc (.cells #[.slice A n c, .slice A0 m0 c0, .int .i64 cnt, .int .i64 idx, .slice A1 m c1] 64)).cell? ⟨w.heap.size, 0, none⟩ = some (.slice A n c) := (blk_cell hk 0).trans rfl
  have k1 : (w.alloc (.cells #[.slice A n c, .slice A0 m0 c0, .int .i64 cnt, .int .i64 idx, .slice A1 m c1] 64)).cell? ⟨w.heap.size, 1, none⟩ = some (.slice A0 m0 c0) := (blk_cell hk 1).trans rfl
  have k4 : (w.alloc (.cells #[.slice A n c, .slice A0 m0 c0, .int .i64 cnt, .int .i64 idx, .slice A1 m c1] 64)).cell? ⟨w.heap.size, 4, none⟩ = some (.slice A1 m c1) := (blk_cell hk 4).trans rfl
  have hb := below_alloc (Below.refl w.heap.size w) (.cells #[.slice A n c, .slice A0 m0 c0, .int .i64 cnt, .int .i64 idx, .slice A1 m c1] 64)
  have HB := Lib.hid hb
  have HR := Lib.hid (Kd.C_below hr hb)
  have HN := Lib.hid hn
  clear hb hr hk hn
  by_cases h1 : 9 < n
  · have g1 : (9 : Int) < (n : Int) := by omega
    have hSf : S = false := by
      rw [← hS]
      unfold smallP
      exact decide_eq_false (fun h => by have := HN.out; omega)
    subst hSf
    clear hS
    go_enter Tryd.func40, Tryd.ntmps40
    go_wp2_with fail
    go_ret
    exact ⟨rfl, HB.out⟩
  have g1 : ¬ (9 : Int) < (n : Int) := by omega
  by_cases h2 : 200 < m0
  · have g2 : (200 : Int) < (m0 : Int) := by omega
    have hSf : S = false := by
      rw [← hS]
      unfold smallP
      exact decide_eq_false (fun h => by have := HN.out; omega)
    subst hSf
    clear hS
    go_enter Tryd.func40, Tryd.ntmps40
    go_wp2_with fail
    go_ret
    exact ⟨rfl, HB.out⟩
  have g2 : ¬ (200 : Int) < (m0 : Int) := by omega
  by_cases h3 : 20 < m
  · have g3 : (20 : Int) < (m : Int) := by omega
    have hSf : S = false := by
      rw [← hS]
      unfold smallP
      exact decide_eq_false (fun h => by have := HN.out; omega)
    subst hSf
    clear hS
    go_enter Tryd.func40, Tryd.ntmps40
    go_wp2_with fail
    go_ret
    exact ⟨rfl, HB.out⟩
  have g3 : ¬ (20 : Int) < (m : Int) := by omega
  have HS := Lib.hid hS
  clear hS
  go_enter Tryd.func40, Tryd.ntmps40
  go_wp2_with fail
  obtain ⟨W0, hW0⟩ : ∃ W, w.alloc (.cells #[.slice A n c, .slice A0 m0 c0, .int .i64 cnt, .int .i64 idx, .slice A1 m c1] 64) = W := ⟨_, rfl⟩
  rw [hW0] at HB HR k0 k1 k4
  rw [hW0]
  clear hW0 k0 k1 k4
  go_loopw [25] (fun vk wr => ∃ k : Nat, vk = .int .i64 (k : Int) ∧ Hid (k ≤ n ∧ (∀ ys ∈ yss.take k, ys.length ≤ 200) ∧ wr = W0)) (fun vk _ => n + 1 - (intOf vk).toNat)
  case atStart => exact ⟨0, rfl, Lib.hid ⟨Nat.zero_le _, by simp, rfl⟩⟩
  case round =>
    obtain ⟨k, rfl, H⟩ := hrel
    obtain ⟨hkn, hal, rfl⟩ := H.out
    by_cases hlt : k < n
    · have hkt : k < yss.length := by rw [← HN.out]; exact hlt
      obtain ⟨ad, Ai, q, ci, rfl, hcell, hTi⟩ := C_txt HR.out hkt
      have HAL := Lib.hid hal
      have HT := Lib.hid hTi
      have gk : (k : Int) < (n : Int) := by omega
      have gk0 : (0 : Int) ≤ (k : Int) := by omega
      clear H hal hTi hkn
      by_cases h4 : 200 < q
      · have g4 : (200 : Int) < (q : Int) := by omega
        have hSf : S = false := by
          rw [← HS.out]
          unfold smallP
          refine decide_eq_false (fun h => ?_)
          have h5 := h.2.2.2 _ (List.getElem_mem hkt)
          have h6 := HT.out.1
          omega
        subst hSf
        go_wp2_with fail
        go_ret
        exact ⟨rfl, HB.out⟩
      · have g4 : ¬ (200 : Int) < (q : Int) := by omega
        go_wp2_with fail
        have hwk : wrap64 ((k : Int) + 1) = ((k + 1 : Nat) : Int) := by rw [IntWalk.wrap64_in _ ⟨by omega, by omega⟩]; omega
        try rw [hwk]
        go_roundw
        case rel => exact ⟨k + 1, rfl, Lib.hid ⟨hlt, take_one hkt HAL.out (by have h6 := HT.out.1; omega), trivial⟩⟩
        case measure =>
          simp only [intOf]
          omega
    · have gk : ¬ (k : Int) < (n : Int) := by omega
      have hSt : S = true := by
        rw [← HS.out]
        unfold smallP
        rw [List.take_of_length_le (by rw [← HN.out]; omega)] at hal
        exact decide_eq_true ⟨by rw [← HN.out]; omega, by omega, by omega, hal⟩
      subst hSt
      clear H hal hkn
      go_wp2_with fail
      go_ret
      exact ⟨rfl, HB.out⟩
end Go.Proofs.YtlmcdkjobdcflaaDoor.Hand


/- If a branch is taken to the list's root, the text stands in the list at that place, or a clash is told: the plain law. -/
namespace Go.Proofs.YtlmcdkjobdcflaaDoor.Hand
open Go Go.RowKit Go.Proofs.YtlmcdkjobdcflaaDoor.Plain Go.Proofs.YtlmcdkjobdcflaaDoorW.PrintWords Go.Proofs.YtlmcdkjobdcflaaDoorW.PrintLast Go.Proofs.YtlmcdkjobdcflaaDoorW.PrintMore
set_option linter.unusedVariables false
set_option linter.unusedSimpArgs false
theorem pickT_none {tx : List (List Int)} {c t : List Int} (h : pickT tx c = none) (ht : t ∈ tx) (e : twiceP t = twiceP c) : t = c := by
  unfold pickT at h
  rw [List.find?_eq_none] at h
  have h1 := h t ht
  rw [e] at h1
  by_cases h2 : t = c
  · exact h2
  · exfalso
    apply h1
    simp [h2]
theorem pickT_some {tx : List (List Int)} {c t : List Int} (h : pickT tx c = some t) : t ∈ tx ∧ twiceP t = twiceP c ∧ t ≠ c := by
  unfold pickT at h
  have h1 := List.find?_some h
  have h2 := List.mem_of_find?_eq_some h
  rw [Bool.and_eq_true] at h1
  exact ⟨h2, by simpa using h1.1, by simpa using h1.2⟩
/-- What is told is a clash. -/
theorem extractP_some {tx cl : List (List Int)} {a b : List Int} (h : extractP tx cl = some (a, b)) : a ∈ cl ∧ b ∈ tx ∧ a ≠ b ∧ twiceP a = twiceP b := by
  unfold extractP at h
  obtain ⟨c, hc, h1⟩ := List.exists_of_findSome?_eq_some h
  cases hp : pickT tx c with
  | none => rw [hp] at h1; cases h1
  | some t =>
    rw [hp] at h1
    have h1 : some (c, t) = some (a, b) := h1
    injection h1 with h1
    injection h1 with e1 e2
    subst e1 e2
    obtain ⟨k1, k2, k3⟩ := pickT_some hp
    exact ⟨hc, k1, Ne.symm k3, k2.symm⟩
theorem extractP_none {tx cl : List (List Int)} (h : extractP tx cl = none) : ∀ c ∈ cl, ∀ t ∈ tx, twiceP t = twiceP c → t = c := by
  unfold extractP at h
  rw [List.findSome?_eq_none_iff] at h
  intro c hc t ht e
  refine pickT_none ?_ ht e
  have := h c hc
  cases hp : pickT tx c with
  | none => rfl
  | some t9 => rw [hp] at this; cases this
/-- The text of a list's node. -/
def nodeT (yss : List (List Int)) : Nat → Nat → List Int
  | 0, i => yss.getD i []
  | k + 1, i => pairT (lev (yss.map twiceP) k) i
theorem nodeT_at {yss : List (List Int)} : ∀ k m i, k ≤ m → i < wideP yss.length k → nodeT yss k i ∈ textsAt yss m
  | 0, 0, i, _, h => by
    have h : i < yss.length := h
    show yss.getD i [] ∈ yss
    rw [List.getD_eq_getElem?_getD, List.getElem?_eq_getElem h]
    exact List.getElem_mem h
  | k, m + 1, i, hk, h => by
    rw [textsAt]
    by_cases e : k = m + 1
    · subst e
      refine List.mem_append.2 (Or.inr ?_)
      show pairT _ i ∈ rowT _
      unfold rowT
      rw [List.mem_map]
      refine ⟨i, ?_, rfl⟩
      rw [List.mem_range, lev_len, List.length_map]
      exact h
    · exact List.mem_append.2 (Or.inl (nodeT_at k m i (by omega) h))
  | k + 1, 0, i, hk, _ => absurd hk (by omega)
theorem nodeT_sum {yss : List (List Int)} : ∀ k i, i < wideP yss.length k → twiceP (nodeT yss k i) = rdH (lev (yss.map twiceP) k) i
  | 0, i, h => by
    have h : i < yss.length := h
    show twiceP (yss.getD i []) = rdH (yss.map twiceP) i
    rw [rdH_eq (by rw [List.length_map]; exact h), List.getElem_map, List.getD_eq_getElem?_getD, List.getElem?_eq_getElem h]
    rfl
  | k + 1, i, h => by
    show twiceP (pairT _ i) = rdH (aboveP _) i
    rw [rdH_above (by rw [lev_len, List.length_map]; exact h)]
    rfl
theorem Hs_sums (yss : List (List Int)) : Hs (yss.map twiceP) := fun p hp => by
  obtain ⟨y, _, rfl⟩ := List.mem_map.1 hp
  exact ⟨twiceP_len _, twiceP_bytes _⟩
theorem nodeT_64 {yss : List (List Int)} (k i : Nat) : (nodeT yss (k + 1) i).length = 64 := by
  have hH := lev_Hs (Hs_sums yss) k
  show (pairT _ i).length = 64
  unfold pairT
  rw [List.length_append, (hH.any _).1, (hH.any _).1]
theorem app_inj {a b c d : List Int} (h : a ++ b = c ++ d) (hl : a.length = c.length) : a = c ∧ b = d := List.append_inj h hl
end Go.Proofs.YtlmcdkjobdcflaaDoor.Hand


/- A case of chapter 10: what its parts say. -/
namespace Go.Proofs.YtlmcdkjobdcflaaDoor.Hand
open Go Go.RowKit Go.Proofs.YtlmcdkjobdcflaaDoor.Plain Go.Proofs.YtlmcdkjobdcflaaDoor.PAll Go.Proofs.YtlmcdkjobdcflaaDoorW.PrintWords Go.Proofs.YtlmcdkjobdcflaaDoorW.PrintLast Go.Proofs.YtlmcdkjobdcflaaDoorW.PrintMore
set_option linter.unusedVariables false
set_option linter.unusedSimpArgs false
set_option maxRecDepth 100000
/-- A case's parts, in a world. -/
structure CaseOk (w : World) (A : Option Addr) (n c : Nat) (yss : List (List Int)) (A0 : Option Addr) (m0 c0 : Nat) (text : List Int) (cnt idx : Int) (A1 : Option Addr) (m c1 : Nat) (xs : List (List Int)) : Prop where
  hn : n = yss.length
  hr : Kd.C kBs w A n yss
  hy : ∀ ys ∈ yss, ∀ x ∈ ys, 0 ≤ x ∧ x < 256
  ht : Txt w A0 m0 c0 text
  htb : ∀ x ∈ text, 0 ≤ x ∧ x < 256
  hm : m = xs.length
  hr1 : Kd.C kH w A1 m xs
  hc1 : m ≤ c1
  hH : Hs xs
  h0 : -9223372036854775808 ≤ cnt
  h1 : cnt ≤ 9223372036854775807
  h2 : -9223372036854775808 ≤ idx
  h3 : idx ≤ 9223372036854775807
variable {w : World} {A : Option Addr} {n c : Nat} {yss : List (List Int)} {A0 : Option Addr} {m0 c0 : Nat} {text : List Int} {cnt idx : Int} {A1 : Option Addr} {m c1 : Nat} {xs : List (List Int)}
theorem CaseOk.below (h : CaseOk w A n c yss A0 m0 c0 text cnt idx A1 m c1 xs) {u : World} (hb : Below w.heap.size w u) : CaseOk u A n c yss A0 m0 c0 text cnt idx A1 m c1 xs :=
  { h with hr := Kd.C_below h.hr hb, ht := h.ht.below hb, hr1 := Kd.C_below h.hr1 hb }
theorem small_of (h : smallP m0 m yss = true) : yss.length ≤ 9 ∧ m0 ≤ 200 ∧ m ≤ 20 ∧ ∀ ys ∈ yss, ys.length ≤ 200 := of_decide_eq_true h
theorem CaseOk.okT (h : CaseOk w A n c yss A0 m0 c0 text cnt idx A1 m c1 xs) (hs : smallP m0 m yss = true) : ∀ ys ∈ yss, okT ys := fun ys hy => ⟨h.hy ys hy, by
  have := (small_of hs).2.2.2 ys hy
  omega⟩
theorem CaseOk.okX (h : CaseOk w A n c yss A0 m0 c0 text cnt idx A1 m c1 xs) (hs : smallP m0 m yss = true) : Hand.okT text := ⟨h.htb, by
  have h1 := (small_of hs).2.1
  have h2 := h.ht.1
  omega⟩
theorem CaseOk.extract (h : CaseOk w A n c yss A0 m0 c0 text cnt idx A1 m c1 xs) (hs : smallP m0 m yss = true) (hK : KT w) :
    Calls Tryd.prog 48 #[.slice A n c, .slice A0 m0 c0, .agg #[.int .i64 cnt, .int .i64 idx, .slice A1 m c1]] w fun e w' => (∃ a1 b1 d1 a2 b2 d2, e = .returned (.tuple #[.slice a1 b1 d1, .slice a2 b2 d2, .bool (extractP (textsP yss) (claimP cnt idx xs text)).isSome]) ∧ Txt w' a1 b1 d1 ((extractP (textsP yss) (claimP cnt idx xs text)).getD ([], [])).1 ∧ Txt w' a2 b2 d2 ((extractP (textsP yss) (claimP cnt idx xs text)).getD ([], [])).2) ∧ Below w.heap.size w w' := by
  obtain ⟨s1, s2, s3, s4⟩ := small_of hs
  exact extract10_calls A n c yss A0 m0 c0 text cnt idx A1 m c1 xs w h.hn h.hr (by rw [h.hn]; omega) (h.okT hs) h.ht (h.okX hs) h.hm h.hr1 h.hc1 (by omega) h.hH hK h.h0 h.h1
theorem CaseOk.texts (h : CaseOk w A n c yss A0 m0 c0 text cnt idx A1 m c1 xs) (hs : smallP m0 m yss = true) (hK : KT w) :
    Calls Tryd.prog 43 #[.slice A n c] w fun e w' => ∃ v, e = .returned v ∧ Kd.R kBs 33 w' w.heap.size (fun _ => True) v (textsP yss) ∧ Below w.heap.size w w' := by
  obtain ⟨s1, s2, s3, s4⟩ := small_of hs
  exact texts10_calls A n c yss w h.hn h.hr (by rw [h.hn]; omega) (h.okT hs) hK
theorem CaseOk.claim (h : CaseOk w A n c yss A0 m0 c0 text cnt idx A1 m c1 xs) (hs : smallP m0 m yss = true) (hK : KT w) :
    Calls Tryd.prog 46 #[.slice A0 m0 c0, .agg #[.int .i64 cnt, .int .i64 idx, .slice A1 m c1]] w fun e w' => ∃ v, e = .returned v ∧ Kd.R kBs 33 w' w.heap.size (fun _ => True) v (claimP cnt idx xs text) ∧ Below w.heap.size w w' := by
  obtain ⟨s1, s2, s3, s4⟩ := small_of hs
  exact claim10_calls A0 m0 c0 text cnt idx A1 m c1 xs w h.ht.1 h.ht.2.2 h.ht.2.1 (h.okX hs) h.hm h.hr1 h.hc1 (by omega) h.hH hK h.h0 h.h1
theorem CaseOk.extract_ok (h : CaseOk w A n c yss A0 m0 c0 text cnt idx A1 m c1 xs) (hs : smallP m0 m yss = true) {a b : List Int} (he : extractP (textsP yss) (claimP cnt idx xs text) = some (a, b)) : Hand.okT a ∧ Hand.okT b ∧ a ≠ b ∧ twiceP a = twiceP b := by
  obtain ⟨h1, h2, h3, h4⟩ := extractP_some he
  exact ⟨claimP_ok h.hH (h.okX hs) _ h1, textsP_ok (h.okT hs) _ h2, h3, h4⟩
theorem infoCase : (Tryd.prog.info? 64).map (·.size) = some 5 := by kernel_rfl
end Go.Proofs.YtlmcdkjobdcflaaDoor.Hand


/- A case as a parameter. -/
namespace Go.Proofs.YtlmcdkjobdcflaaDoor.Hand
open Go Go.RowKit Go.Proofs.YtlmcdkjobdcflaaDoor.Plain Go.Proofs.YtlmcdkjobdcflaaDoor.PAll Go.Proofs.YtlmcdkjobdcflaaDoorW.PrintWords Go.Proofs.YtlmcdkjobdcflaaDoorW.PrintLast Go.Proofs.YtlmcdkjobdcflaaDoorW.PrintMore
set_option linter.unusedVariables false
/-- What an opened case says. -/
theorem case_open {w : World} {x : List (List Int) × List Int × Int × Int × List (List Int)} {cs : Array Value}
    (K : (Kd.pair (Kd.slice 33 (Kd.slice 5 (Kd.int .u8))) (Kd.pair (Kd.slice 5 (Kd.int .u8)) (Kd.pair (Kd.int .i64) (Kd.pair (Kd.int .i64) (Kd.slice 25 kH))))).K w x cs.toList)
    (h0 : ∀ y ∈ x.1, ∀ z ∈ y, (Lit.int .u8 z).wf = true) (h1 : ∀ z ∈ x.2.1, (Lit.int .u8 z).wf = true) (h2 : (Lit.int .i64 x.2.2.1).wf = true) (h3 : (Lit.int .i64 x.2.2.2.1).wf = true) (h4 : ∀ y ∈ x.2.2.2.2, ∀ z ∈ y, (Lit.int .u8 z).wf = true) :
    ∃ A n c yss A0 m0 c0 text cnt idx A1 m c1 xs, (Value.agg cs) = .agg (caseC A n c A0 m0 c0 cnt idx A1 m c1) ∧ CaseOk w A n c yss A0 m0 c0 text cnt idx A1 m c1 xs := by
  obtain ⟨yss, text, cnt, idx, xs⟩ := x
  obtain ⟨c0, c1, e0, k0, c2, c3, e1, k1, d1, d2, e2, k2, d3, d4, e3, k3, k4⟩ := K
  obtain ⟨A, c, rfl, hc, hC⟩ := k0
  obtain ⟨A0, c0, rfl, hc0, hC0⟩ := k1
  obtain rfl : d1 = [.int .i64 cnt] := k2
  obtain rfl : d3 = [.int .i64 idx] := k3
  obtain ⟨A1, c1, rfl, hc1, hC1⟩ := k4
  subst e3 e2 e1
  have a0 := Plain.wf_i64 h2
  have a1 := Plain.wf_i64 h3
  refine ⟨A, yss.length, c, yss, A0, text.length, c0, text, cnt, idx, A1, xs.length, c1, xs, ?_, ⟨rfl, hC, fun ys hy => Plain.wf_u8s (h0 ys hy), ⟨rfl, hc0, hC0⟩, Plain.wf_u8s h1, rfl, hC1, hc1, Hs_of hC1 h4, a0.1, a0.2, a1.1, a1.2⟩⟩
  unfold caseC
  congr 1
  apply Array.toList_inj.1
  rw [e0]
  rfl
end Go.Proofs.YtlmcdkjobdcflaaDoor.Hand


/- What a case's cells load as. -/
namespace Go.Proofs.YtlmcdkjobdcflaaDoor.Hand
open Go Go.RowKit Go.Proofs.YtlmcdkjobdcflaaDoor.Plain Go.Proofs.YtlmcdkjobdcflaaDoor.PAll Go.Proofs.YtlmcdkjobdcflaaDoorW.PrintWords Go.Proofs.YtlmcdkjobdcflaaDoorW.PrintLast Go.Proofs.YtlmcdkjobdcflaaDoorW.PrintMore
set_option linter.unusedVariables false
set_option linter.unusedSimpArgs false
set_option maxRecDepth 100000
attribute [local go_sem ↓] Go.wp_at_zero Go.wp_at_succ
theorem run_load_bss (w : World) (a : Addr) (v : Value) (h : w.cell? a = some v) : (loadVar 62 a).run Tryd.prog w = .ok v w := by
  go_simp
attribute [-go_sem] loadVar storeVar Instr.buildSlice
/-- What the case's cells load as. -/
theorem case_loads {u : World} {b : Nat} {A : Option Addr} {n c : Nat} {A0 : Option Addr} {m0 c0 : Nat} {cnt idx : Int} {A1 : Option Addr} {m c1 : Nat} (hk : u.heap[b]? = some (.cells #[.slice A n c, .slice A0 m0 c0, .int .i64 cnt, .int .i64 idx, .slice A1 m c1] 64)) :
    (loadVar 62 ⟨b, 0, none⟩).run Tryd.prog u = .ok (.slice A n c) u ∧ (loadVar 33 ⟨b, 1, none⟩).run Tryd.prog u = .ok (.slice A0 m0 c0) u ∧ (loadVar 41 ⟨b, 2, none⟩).run Tryd.prog u = .ok (.agg #[.int .i64 cnt, .int .i64 idx, .slice A1 m c1]) u ∧ (loadVar 3 ⟨b, 3, none⟩).run Tryd.prog u = .ok (.int .i64 idx) u := by
  refine ⟨run_load_bss _ _ _ ((blk_cell hk 0).trans rfl), run_load_bs _ _ _ ((blk_cell hk 1).trans rfl), ?_, run_load_i64 _ _ _ ((blk_cell hk 3).trans rfl)⟩
  exact run_loadVar_mid (P := Tryd.prog) u b 2 41 [.int .i64 cnt, .int .i64 idx, .slice A1 m c1] _ (fun j v hj => by
    rw [blk_cell hk]
    match j, hj with
    | 0, hj => exact hj
    | 1, hj => exact hj
    | 2, hj => exact hj
    | j + 3, hj => simp at hj) Tryd.underlying41 rfl (zero_of_info infoB9).2
end Go.Proofs.YtlmcdkjobdcflaaDoor.Hand


/- A list's texts as strings (mastheadlaw10.texts): walked. -/
namespace Go.Proofs.YtlmcdkjobdcflaaDoor.Hand
open Go Go.RowKit Go.Proofs.YtlmcdkjobdcflaaDoor.Plain Go.Proofs.YtlmcdkjobdcflaaDoor.PAll Go.Proofs.YtlmcdkjobdcflaaDoorW.PrintWords Go.Proofs.YtlmcdkjobdcflaaDoorW.PrintLast Go.Proofs.YtlmcdkjobdcflaaDoorW.PrintMore
set_option linter.unusedVariables false
set_option linter.unusedSimpArgs false
set_option maxRecDepth 100000
attribute [-go_sem] loadVar storeVar Instr.buildSlice
theorem run_build1s (s : ByteArray) (W : World) : (Instr.buildSlice 68 1 #[(0, .string s)]).run Tryd.prog W = .ok (.slice (some ⟨W.heap.size, 0, none⟩) 1 1) (W.alloc (.cells #[.string s] 9)) := by kernel_rfl
theorem infoS9 : (Tryd.prog.info? 9).map (fun i => (i.zero, i.size, i.bytes)) = some (some (.string ⟨#[]⟩), 1, 16) := by kernel_rfl
set_option maxHeartbeats 4000000 in
theorem strs10_calls (A : Option Addr) (n c : Nat) (yss : List (List Int)) (w : World) (hn : n = yss.length) (hr : Kd.C kBs w A n yss) (hl : n ≤ 1000) (hy : ∀ ys ∈ yss, (∀ x ∈ ys, 0 ≤ x ∧ x < 256) ∧ ys.length ≤ 900000) :
    Calls Tryd.prog 45 #[.slice A n c] w fun e w' => ∃ v, e = .returned v ∧ Kd.R Kd.string 9 w' w.heap.size (fun _ => True) v (yss.map strOfNums) ∧ Below w.heap.size w w' := by
  have HR := Lib.hid hr
  have HN := Lib.hid (And.intro hn hy)
  clear hr hn hy
  go_enter Tryd.func45, Tryd.ntmps45
  go_wp2_with fail
  go_loopw [3, 8] (fun v i wr => ∃ k : Nat, k ≤ n ∧ i = .int .i64 (k : Int) ∧ Hid (Kd.R Kd.string 9 wr w.heap.size (fun _ => True) v ((yss.map strOfNums).take k) ∧ Below w.heap.size w wr)) (fun _ i _ => (n + 1 - (intOf i).toNat))
  case atStart => exact ⟨0, Nat.zero_le _, rfl, Lib.hid ⟨Kd.R_nil _ _ _ _ _, Below.refl _ _⟩⟩
  case round =>
    obtain ⟨k, hk, rfl, H⟩ := hrel
    obtain ⟨hR, hB⟩ := H.out
    by_cases hlt : k < n
    · have hklt : k < yss.length := by rw [← HN.out.1]; exact hlt
      have hCw : Kd.C kBs wr A yss.length yss := by rw [← HN.out.1]; exact Kd.C_below HR.out hB
      obtain ⟨ad, Ai, ci, rfl, hcell, hci, hCi⟩ := C_text hCw hklt
      have hyk := HN.out.2 _ (List.getElem_mem hklt)
      have htk := map_take strOfNums yss hklt
      obtain ⟨ys, hys⟩ : ∃ ys, yss[k] = ys := ⟨_, rfl⟩
      rw [hys] at hcell hci hCi hyk htk
      have hcv : (convert 33 9 (.slice Ai ys.length ci)).run Tryd.prog wr = .ok (.string (strOfNums ys)) wr := Kd.C_string (P := Tryd.prog) Tryd.underlying33 Tryd.underlying5 Tryd.underlying9 hCi
      obtain ⟨q, hq⟩ : ∃ q, ys.length = q := ⟨_, rfl⟩
      rw [hq] at hcell hcv
      have hg2 : (k : Int) < (n : Int) := by omega
      have hld := run_load_bs wr (ad.add k) _ hcell
      obtain ⟨s, hs⟩ : ∃ s, strOfNums ys = s := ⟨_, rfl⟩
      rw [hs] at hcv htk
      have hb1 := run_build1s s wr
      have HRR := Lib.hid hR
      have HBB := Lib.hid hB
      have HTL := Lib.hid (show (((yss.map strOfNums).take k).length + 1) * 16 ≤ 140737488355328 by rw [List.length_take, List.length_map]; omega)
      have HTK := Lib.hid htk
      have HCM := Lib.hid (show ∀ u : World, Kd.string.M u w.heap.size (fun _ => False) s [.string s] from fun u => rfl)
      clear hR hB H hCw hcell hci hCi hyk htk hys hq hs hklt
      go_wp2_with ((with_reducible refine gate_builtin (b := .append) (xs := #[.tmp 12, .tmp 15]) rfl ?_); at_builtin; (go_loud (refine Kd.R_append Kd.string (w0 := w) w.heap.size rfl (.tmp 12) (.tmp 15) 68 9 (.string ⟨#[]⟩) 16 rfl Tryd.underlying68 infoS9 rfl (by decide) (by decide) _ ((yss.map strOfNums).take k) s [.string s] (fun _ => True) (fun _ => False) rfl (by first | (go_simp; done) | (go_simp; rfl)) (HCM.out _) (fun _ h => h.elim) (fun _ _ => trivial) HRR.out HBB.out HBB.out.size HTL.out ?_)); intro v4 w4 ho hb hg hat; have HR4 := Lib.hid ho; have HB4 := Lib.hid hb; clear ho hb hg hat)
      go_roundw
      case rel => exact ⟨k + 1, by omega, by first | rfl | (congr 1 <;> omega), Lib.hid ⟨HTK.out ▸ HR4.out, HB4.out⟩⟩
      case measure => simp only [intOf]; omega
    · have hg2 : ¬ (k : Int) < (n : Int) := by omega
      have htk : (yss.map strOfNums).take k = yss.map strOfNums := List.take_of_length_le (by rw [List.length_map, ← HN.out.1]; omega)
      rw [htk] at hR
      have HB := Lib.hid hB
      have HRR := Lib.hid hR
      clear hR hB H htk
      go_wp2_with fail
      go_ret
      exact ⟨_, rfl, HRR.out, HB.out⟩
end Go.Proofs.YtlmcdkjobdcflaaDoor.Hand


/- Are two lists of texts one (mastheadlaw10.same): walked. -/
namespace Go.Proofs.YtlmcdkjobdcflaaDoor.Hand
open Go Go.RowKit Go.Proofs.YtlmcdkjobdcflaaDoor.Plain Go.Proofs.YtlmcdkjobdcflaaDoor.PAll Go.Proofs.YtlmcdkjobdcflaaDoorW.PrintWords Go.Proofs.YtlmcdkjobdcflaaDoorW.PrintLast Go.Proofs.YtlmcdkjobdcflaaDoorW.PrintMore
set_option linter.unusedVariables false
set_option linter.unusedSimpArgs false
set_option maxRecDepth 100000
attribute [local go_sem ↓] Go.wp_at_zero Go.wp_at_succ
theorem run_load_st (w : World) (a : Addr) (v : Value) (h : w.cell? a = some v) : (loadVar 9 a).run Tryd.prog w = .ok v w := by
  go_simp
theorem str_same (x y : ByteArray) : (x.toList == y.toList) = true ↔ x = y := by
  rw [ByteArray.toList_eq, ByteArray.toList_eq, beq_iff_eq]
  constructor
  · intro h
    obtain ⟨⟨x⟩⟩ := x
    obtain ⟨⟨y⟩⟩ := y
    have h : x = y := h
    rw [h]
  · rintro rfl; rfl
attribute [-go_sem] loadVar storeVar Instr.buildSlice
theorem C_str {w : World} {A : Option Addr} {ss : List ByteArray} {m : Nat} (h : Kd.C Kd.string w A m ss) (hm : m = ss.length) {i : Nat} (hi : i < ss.length) : ∃ ad, A = some ad ∧ w.cell? (ad.add i) = some (.string ss[i]) := by
  obtain ⟨_, _, h3⟩ := h
  obtain ⟨ad, e, hc⟩ := h3 (by omega)
  obtain ⟨c, hl, hK, hcell⟩ := hc i ss[i] (List.getElem?_eq_getElem hi)
  obtain rfl : c = [.string ss[i]] := hK
  refine ⟨ad, e, ?_⟩
  have := hcell 0 _ rfl
  rw [← this]
  congr 2
  show i = i * 1 + 0
  omega
theorem take_eq {xs ys : List ByteArray} {k : Nat} (hx : k < xs.length) (hy : k < ys.length) (h : xs.take k = ys.take k) (e : xs[k] = ys[k]) : xs.take (k + 1) = ys.take (k + 1) := by
  rw [List.take_succ_eq_append_getElem hx, List.take_succ_eq_append_getElem hy, h, e]
set_option maxHeartbeats 4000000 in
theorem same10_calls (A B : Option Addr) (n m c c2 : Nat) (yss : List (List Int)) (ss : List ByteArray) (w : World) (hn : n = yss.length) (hm : m = ss.length) (hr : Kd.C kBs w A n yss) (hs : Kd.C Kd.string w B m ss) (hl : n ≤ 100000) (hl2 : m ≤ 100000) :
    Calls Tryd.prog 42 #[.slice A n c, .slice B m c2] w fun e w' => e = .returned (.bool (decide (yss.map strOfNums = ss))) ∧ Below w.heap.size w w' := by
  obtain ⟨R, hR⟩ : ∃ R, decide (yss.map strOfNums = ss) = R := ⟨_, rfl⟩
  rw [hR]
  have HR := Lib.hid hR
  have HA := Lib.hid hr
  have HB := Lib.hid hs
  have HN := Lib.hid (And.intro hn hm)
  clear hR hr hs hn hm
  by_cases he : n = m
  · subst he
    go_enter Tryd.func42, Tryd.ntmps42
    go_wp2_with fail
    go_loopw [13] (fun vk wr => ∃ k : Nat, vk = .int .i64 (k : Int) ∧ Hid (k ≤ n ∧ (yss.map strOfNums).take k = ss.take k ∧ Below w.heap.size w wr)) (fun vk _ => n + 1 - (intOf vk).toNat)
    case atStart => exact ⟨0, rfl, Lib.hid ⟨Nat.zero_le _, rfl, Below.refl _ _⟩⟩
    case round =>
      obtain ⟨k, rfl, H⟩ := hrel
      obtain ⟨hkn, htk, hBw⟩ := H.out
      by_cases hlt : k < n
      · have h1 : k < yss.length := by rw [← HN.out.1]; exact hlt
        have h2 : k < ss.length := by rw [← HN.out.2]; exact hlt
        have hCw : Kd.C kBs w A yss.length yss := by have h9 := HA.out; rw [HN.out.1] at h9; exact h9
        obtain ⟨ad, Ai, ci, rfl, hcell, hci, hCi⟩ := C_text hCw h1
        obtain ⟨ad2, rfl, hcell2⟩ := C_str HB.out HN.out.2 h2
        have hmk : (yss.map strOfNums)[k]'(by rw [List.length_map]; exact h1) = strOfNums yss[k] := List.getElem_map _
        obtain ⟨ys, hys⟩ : ∃ ys, yss[k] = ys := ⟨_, rfl⟩
        obtain ⟨s2, hs2⟩ : ∃ s, ss[k] = s := ⟨_, rfl⟩
        rw [hys] at hcell hCi hmk
        rw [hs2] at hcell2
        obtain ⟨q, hq⟩ : ∃ q, ys.length = q := ⟨_, rfl⟩
        rw [hq] at hcell
        obtain ⟨s, hse⟩ : ∃ s, strOfNums ys = s := ⟨_, rfl⟩
        rw [hse] at hmk
        have HSS := Lib.hid (show ∀ u : World, Below w.heap.size w u → (loadVar 33 (ad.add k)).run Tryd.prog u = .ok (.slice Ai q ci) u ∧ (convert 33 9 (.slice Ai q ci)).run Tryd.prog u = .ok (.string s) u ∧ (loadVar 9 (ad2.add k)).run Tryd.prog u = .ok (.string s2) u from fun u hu => by
          refine ⟨run_load_bs _ _ _ ((World.cell?_of_block (hu.block _ (World.block_lt_of_cell? w _ hcell))).trans hcell), ?_, run_load_st _ _ _ ((World.cell?_of_block (hu.block _ (World.block_lt_of_cell? w _ hcell2))).trans hcell2)⟩
          have h9 := Kd.C_string (P := Tryd.prog) (c := ci) Tryd.underlying33 Tryd.underlying5 Tryd.underlying9 (Kd.C_below hCi hu)
          rw [hq, hse] at h9
          exact h9)
        have gk : (k : Int) < (n : Int) := by omega
        have gk0 : (0 : Int) ≤ (k : Int) := by omega
        have HBD := Lib.hid (below_drew hBw)
        have HTK := Lib.hid htk
        have HMK := Lib.hid (And.intro hmk hs2)
        have hHeld := HSS.out _ HBD.out
        clear hcell hcell2 hCi hCw hmk hs2 hys hq hse H hkn htk hBw hci
        obtain ⟨sm, hsm⟩ : ∃ x, (s.toList == s2.toList) = x := ⟨_, rfl⟩
        have HSM := Lib.hid hsm
        clear hsm
        go_wp2_with fail
        refine wp_region_held (S := fun u => (loadVar 33 (ad.add k)).run Tryd.prog u = .ok (.slice Ai q ci) u ∧ (convert 33 9 (.slice Ai q ci)).run Tryd.prog u = .ok (.string s) u ∧ (loadVar 9 (ad2.add k)).run Tryd.prog u = .ok (.string s2) u) (by kernel_rfl) ?_
        change wpAnyH _ _ _ _ _ _ _ _ (World.drew _)
        refine wpAnyH_take (i := 0) (oi := ({ dst := some 16, op := Op.move (Operand.tmp 0), type := 62, pos := "law.go:57", after := #[], guard := none } : Oper)) (v := .slice (some ad) n c) rfl (by kernel_rfl) (by kernel_rfl) (by kernel_rfl) (fun _ _ _ h => h) (Or.inl ⟨by rfl, fun w hSw => by go_simp⟩) hHeld ?_
        simp only [Act.put, List.setIfInBounds_toArray, List.set_cons_zero, List.set_cons_succ]
        refine wpAnyH_take (i := 1) (oi := ({ dst := some 17, op := Op.move (Operand.tmp 5), type := 3, pos := "law.go:57", after := #[], guard := none } : Oper)) (v := .int .i64 (k : Int)) rfl (by kernel_rfl) (by kernel_rfl) (by kernel_rfl) (fun _ _ _ h => h) (Or.inl ⟨by rfl, fun w hSw => by go_simp⟩) hHeld ?_
        simp only [Act.put, List.setIfInBounds_toArray, List.set_cons_zero, List.set_cons_succ]
        refine wpAnyH_take (i := 2) (oi := ({ dst := some 18, op := Op.indexAddr 62 (Operand.tmp 16) (Operand.tmp 17), type := 0, pos := "law.go:57", after := #[{ on := 0, ground := Ground.data }, { on := 1, ground := Ground.data }], guard := none } : Oper)) (v := .pointer (some (ad.add k))) rfl (by kernel_rfl) (by kernel_rfl) (by kernel_rfl) (fun _ _ _ h => h) (Or.inl ⟨by rfl, fun w hSw => by go_simp⟩) hHeld ?_
        simp only [Act.put, List.setIfInBounds_toArray, List.set_cons_zero, List.set_cons_succ]
        refine wpAnyH_take (i := 3) (oi := ({ dst := some 19, op := Op.load 33 (Operand.tmp 18), type := 33, pos := "law.go:57", after := #[{ on := 2, ground := Ground.data }], guard := none } : Oper)) (v := .slice Ai q ci) rfl (by kernel_rfl) (by kernel_rfl) (by kernel_rfl) (fun _ _ _ h => h) (Or.inl ⟨by rfl, fun w hSw => by obtain ⟨z0, z1, z2⟩ := hSw; go_simp⟩) hHeld ?_
        simp only [Act.put, List.setIfInBounds_toArray, List.set_cons_zero, List.set_cons_succ]
        refine wpAnyH_take (i := 4) (oi := ({ dst := some 20, op := Op.convert 33 9 (Operand.tmp 19), type := 9, pos := "law.go:57", after := #[{ on := 3, ground := Ground.data }], guard := none } : Oper)) (v := .string s) rfl (by kernel_rfl) (by kernel_rfl) (by kernel_rfl) (fun _ _ _ h => h) (Or.inl ⟨by rfl, fun w hSw => by obtain ⟨z0, z1, z2⟩ := hSw; go_simp⟩) hHeld ?_
        simp only [Act.put, List.setIfInBounds_toArray, List.set_cons_zero, List.set_cons_succ]
        refine wpAnyH_take (i := 5) (oi := ({ dst := some 21, op := Op.move (Operand.tmp 1), type := 68, pos := "law.go:57", after := #[], guard := none } : Oper)) (v := .slice (some ad2) n c2) rfl (by kernel_rfl) (by kernel_rfl) (by kernel_rfl) (fun _ _ _ h => h) (Or.inl ⟨by rfl, fun w hSw => by go_simp⟩) hHeld ?_
        simp only [Act.put, List.setIfInBounds_toArray, List.set_cons_zero, List.set_cons_succ]
        refine wpAnyH_take (i := 6) (oi := ({ dst := some 22, op := Op.move (Operand.tmp 5), type := 3, pos := "law.go:57", after := #[], guard := none } : Oper)) (v := .int .i64 (k : Int)) rfl (by kernel_rfl) (by kernel_rfl) (by kernel_rfl) (fun _ _ _ h => h) (Or.inl ⟨by rfl, fun w hSw => by go_simp⟩) hHeld ?_
        simp only [Act.put, List.setIfInBounds_toArray, List.set_cons_zero, List.set_cons_succ]
        refine wpAnyH_take (i := 7) (oi := ({ dst := some 23, op := Op.indexAddr 68 (Operand.tmp 21) (Operand.tmp 22), type := 0, pos := "law.go:57", after := #[{ on := 5, ground := Ground.data }, { on := 6, ground := Ground.data }], guard := none } : Oper)) (v := .pointer (some (ad2.add k))) rfl (by kernel_rfl) (by kernel_rfl) (by kernel_rfl) (fun _ _ _ h => h) (Or.inl ⟨by rfl, fun w hSw => by go_simp⟩) hHeld ?_
        simp only [Act.put, List.setIfInBounds_toArray, List.set_cons_zero, List.set_cons_succ]
        refine wpAnyH_take (i := 8) (oi := ({ dst := some 24, op := Op.load 9 (Operand.tmp 23), type := 9, pos := "law.go:57", after := #[{ on := 7, ground := Ground.data }], guard := none } : Oper)) (v := .string s2) rfl (by kernel_rfl) (by kernel_rfl) (by kernel_rfl) (fun _ _ _ h => h) (Or.inl ⟨by rfl, fun w hSw => by obtain ⟨z0, z1, z2⟩ := hSw; go_simp⟩) hHeld ?_
        simp only [Act.put, List.setIfInBounds_toArray, List.set_cons_zero, List.set_cons_succ]
        refine wpAnyH_take (i := 9) (oi := ({ dst := some 25, op := Op.binOp BinOp.neq 9 (Operand.tmp 20) (Operand.tmp 24) 9, type := 4, pos := "law.go:57", after := #[{ on := 4, ground := Ground.data }, { on := 8, ground := Ground.data }], guard := none } : Oper)) (v := .bool (!sm)) rfl (by kernel_rfl) (by kernel_rfl) (by kernel_rfl) (fun _ _ _ h => h) (Or.inl ⟨by rfl, fun w hSw => by have h9 := HSM.out; go_simp⟩) hHeld ?_
        simp only [Act.put, List.setIfInBounds_toArray, List.set_cons_zero, List.set_cons_succ]
        refine wpAnyH_done (by kernel_rfl) ?_ _
        clear hHeld
        cases sm with
        | true =>
          have hss : s = s2 := (str_same _ _).1 HSM.out
          have HSS2 := Lib.hid hss
          clear hss
          go_wp2_with fail
          go_roundw
          case rel =>
            refine ⟨k + 1, by first | rfl | (congr 1 <;> omega), Lib.hid ⟨hlt, ?_, HBD.out⟩⟩
            exact take_eq _ h2 HTK.out (by rw [HMK.out.1, HMK.out.2, HSS2.out])
          case measure => simp only [intOf]; omega
        | false =>
          have hne : s ≠ s2 := fun e => absurd (((str_same _ _).2 e).symm.trans HSM.out) (by decide)
          have hR0 : R = false := by
            rw [← HR.out]
            refine decide_eq_false fun e => hne ?_
            rw [← HMK.out.1, ← HMK.out.2]
            exact List.getElem_of_eq e _
          subst hR0
          have HBB := HBD
          go_wp2_with fail
          go_ret
          exact ⟨rfl, HBB.out⟩
      · have hkn' : k = n := by omega
        subst hkn'
        have hR0 : R = true := by
          rw [← HR.out]
          refine decide_eq_true ?_
          rw [← List.take_length (l := ss), ← HN.out.2, ← htk]
          exact (List.take_of_length_le (by rw [List.length_map, ← HN.out.1]; exact Nat.le_refl _)).symm
        subst hR0
        have HBB := Lib.hid hBw
        clear H htk hBw
        have gk : ¬ (k : Int) < (k : Int) := by omega
        go_wp2_with fail
        go_ret
        exact ⟨rfl, HBB.out⟩
  · have hR0 : R = false := by
      rw [← HR.out]
      refine decide_eq_false fun e => he ?_
      rw [HN.out.1, HN.out.2, ← e, List.length_map]
    subst hR0
    have hne : ¬ (n : Int) = (m : Int) := by omega
    go_enter Tryd.func42, Tryd.ntmps42
    go_wp2_with fail
    go_ret
    exact ⟨rfl, Below.refl _ _⟩
end Go.Proofs.YtlmcdkjobdcflaaDoor.Hand


/- The document's texts: what its functions share. -/
namespace Go.Proofs.YtlmcdkjobdcflaaDoor.Hand
open Go Go.RowKit Go.Proofs.YtlmcdkjobdcflaaDoor.Plain Go.Proofs.YtlmcdkjobdcflaaDoor.PAll Go.Proofs.YtlmcdkjobdcflaaDoorW.PrintWords Go.Proofs.YtlmcdkjobdcflaaDoorW.PrintLast Go.Proofs.YtlmcdkjobdcflaaDoorW.PrintMore
set_option linter.unusedVariables false
set_option linter.unusedSimpArgs false
set_option maxRecDepth 100000
attribute [local go_sem ↓] Go.wp_at_zero Go.wp_at_succ
attribute [-go_sem] loadVar storeVar Instr.buildSlice
theorem ty_c : ∀ q, q ∈ 24 :: kH.E → q ≠ 9 := by decide
theorem ty_d : ∀ q, q ∈ 9 :: Kd.string.E → q ≠ 24 := by decide
/-- Bytes that the document's sum takes. -/
def okR (ys : List Int) : Prop := (∀ x ∈ ys, 0 ≤ x ∧ x < 256) ∧ ys.length ≤ 800000
theorem str32 {u : World} {g : Nat} {p : List Int} {t : TypeId} (hp : p.length = 32) (hk : u.heap[g]? = some (.cells (nums .u8 p).toArray t (0, 0))) : (convert 33 9 (.slice (some ⟨g, 0, none⟩) 32 32)).run Tryd.prog u = .ok (.string (strOfNums p)) u := by
  have hC := C_of_block (pre := []) (post := []) (k := .u8) (ys := p) (o := 0) (t := t) (fr := (0, 0)) (w := u) (b := g) (by rw [List.nil_append, List.append_nil]; exact hk) rfl (by rw [hp]; decide)
  have h := Kd.C_string (P := Tryd.prog) (c := 32) Tryd.underlying33 Tryd.underlying5 Tryd.underlying9 hC
  rwa [hp] at h
theorem meas9 {a m : Nat} (h : m < a) : a + 1 - (intOf (.int .i64 ((m + 1 : Nat) : Int))).toNat < a + 1 - (intOf (.int .i64 (m : Int))).toNat := by
  simp only [intOf]
  omega
end Go.Proofs.YtlmcdkjobdcflaaDoor.Hand


/- A list's texts, as the document has them (mastheadref10.Texts): walked. -/
namespace Go.Proofs.YtlmcdkjobdcflaaDoor.Hand
open Go Go.RowKit Go.Proofs.YtlmcdkjobdcflaaDoor.Plain Go.Proofs.YtlmcdkjobdcflaaDoor.PAll Go.Proofs.YtlmcdkjobdcflaaDoorW.PrintWords Go.Proofs.YtlmcdkjobdcflaaDoorW.PrintLast Go.Proofs.YtlmcdkjobdcflaaDoorW.PrintMore
set_option linter.unusedVariables false
set_option linter.unusedSimpArgs false
set_option maxRecDepth 100000
attribute [local go_sem ↓] Go.wp_at_zero Go.wp_at_succ
attribute [-go_sem] loadVar storeVar Instr.buildSlice
set_option maxHeartbeats 8000000 in
theorem rtexts10_calls (A : Option Addr) (n c : Nat) (yss : List (List Int)) (w : World) (hn : n = yss.length) (hr : Kd.C Kd.string w A n (yss.map strOfNums)) (hl : n ≤ 1000) (hy : ∀ ys ∈ yss, okR ys) :
    Calls Tryd.prog 44 #[.slice A n c] w fun e w' => ∃ v, e = .returned v ∧ Kd.R Kd.string 9 w' w.heap.size (fun _ => True) v ((textsP yss).map strOfNums) ∧ Below w.heap.size w w' := by
  have HR := Lib.hid hr
  have HN := Lib.hid (And.intro hn hy)
  have HZ := (zero_of_info info32b).1
  obtain ⟨Z, hZ⟩ : ∃ C, (nums .u8 (List.replicate 32 0)).toArray = C := ⟨_, rfl⟩
  have hZs : Z.size = 32 := by rw [← hZ]; rfl
  rw [hZ] at HZ
  have HZS := Lib.hid hZs
  clear hr hn hy hZ hZs
  go_enter Tryd.func44, Tryd.ntmps44
  go_wp2_with fail
  go_loopw [3, 4, 14] (fun v v4 i wr => ∃ k : Nat, i = .int .i64 (k : Int) ∧ Hid (k ≤ n ∧ Kd.R Kd.string 9 wr w.heap.size (fun _ => True) v ((yss.map strOfNums).take k) ∧ Kd.R kH 24 wr w.heap.size (fun _ => True) v4 ((yss.map twiceP).take k) ∧ Below w.heap.size w wr)) (fun _ _ i _ => (n + 1 - (intOf i).toNat))
  case atStart => exact ⟨0, rfl, Lib.hid ⟨Nat.zero_le _, Kd.R_nil _ _ _ _ _, Kd.R_nil _ _ _ _ _, Below.refl _ _⟩⟩
  case round =>
    obtain ⟨k, rfl, H⟩ := hrel
    obtain ⟨hk, hR, hL, hB⟩ := H.out
    by_cases hlt : k < n
    · have hklt : k < yss.length := by rw [← HN.out.1]; exact hlt
      have hms : (yss.map strOfNums).length = n := by rw [List.length_map, HN.out.1]
      obtain ⟨ad, rfl, hcell0⟩ := C_str HR.out hms.symm (i := k) (by rw [hms]; exact hlt)
      rw [List.getElem_map] at hcell0
      have hyk := HN.out.2 _ (List.getElem_mem hklt)
      have htk := map_take twiceP yss hklt
      have htt := map_take strOfNums yss hklt
      obtain ⟨ys, hys⟩ : ∃ ys, yss[k] = ys := ⟨_, rfl⟩
      rw [hys] at hcell0 hyk htk htt
      have HTW := Lib.hid (fun u : World => rtwice_calls ys u hyk.2 hyk.1)
      have hTl := twiceP_len ys
      obtain ⟨s, hs⟩ : ∃ s, strOfNums ys = s := ⟨_, rfl⟩
      rw [hs] at hcell0 htt HTW
      have hld := run_load_st wr (ad.add k) _ (pw_cell_below hB hcell0)
      have hb1 := fun u => run_build1s s u
      have hg2 : (k : Int) < (n : Int) := by omega
      have gk0 : (0 : Int) ≤ (k : Int) := by omega
      have hcm := fun (u : World) => kH_M (w := u) (base := w.heap.size) (ok := fun _ => False) hTl
      have hbs := fun u => run_hash1r (twiceP ys) hTl u
      obtain ⟨P, hP⟩ : ∃ P, nums .u8 (twiceP ys) = P := ⟨_, rfl⟩
      rw [hP] at hbs hcm HTW
      have HCM := Lib.hid hcm
      have HCS := Lib.hid (show ∀ u : World, Kd.string.M u w.heap.size (fun _ => False) s [.string s] from fun u => rfl)
      have HTA := Lib.hid (show (((yss.map strOfNums).take k).length + 1) * 16 ≤ 140737488355328 by rw [List.length_take, List.length_map]; omega)
      have HTB := Lib.hid (show (((yss.map twiceP).take k).length + 1) * 32 ≤ 140737488355328 by rw [List.length_take, List.length_map]; omega)
      have HTK := Lib.hid (And.intro htt htk)
      have HRR := Lib.hid hR
      have HLL := Lib.hid hL
      have HBB := Lib.hid hB
      clear hR hL hB H hcell0 hyk htk htt hys hTl hcm hP hklt hs hms
      go_wp2_with ((with_reducible refine gate_builtin (b := .append) (xs := #[.tmp 18, .tmp 20]) rfl ?_); at_builtin; refine Kd.R_append Kd.string (w0 := w) w.heap.size rfl (.tmp 18) (.tmp 20) 68 9 (.string ⟨#[]⟩) 16 rfl Tryd.underlying68 infoS9 rfl (by decide) (by decide) _ ((yss.map strOfNums).take k) s [.string s] (fun _ => True) (fun _ => False) rfl (by first | (go_simp; done) | (go_simp; rfl)) (HCS.out _) (fun _ h => h.elim) (fun _ _ => trivial) HRR.out HBB.out HBB.out.size HTA.out ?_; intro v2 w2 ho hb hg hat; have HR2 := Lib.hid ho; have HB2 := Lib.hid hb; have HL2 := Lib.hid (Kd.R_over HLL.out HRR.out ty_c hg); clear ho hb hg hat)
      refine (HTW.out _).mono ?_
      rintro e w3 ⟨rfl, hb3⟩
      have HB3 := Lib.hid (HB2.out.trans (Below.mono hb3 HB2.out.size))
      have HR3 := Lib.hid (Kd.R_below HR2.out hb3)
      have HL3 := Lib.hid (Kd.R_below HL2.out hb3)
      clear hb3 hb1
      go_wp2_with ((with_reducible refine gate_builtin (b := .append) (xs := #[.tmp 22, .tmp 25]) rfl ?_); at_builtin; refine Kd.R_append kH (w0 := w) w.heap.size rfl (.tmp 22) (.tmp 25) 28 24 (.agg (nums .u8 (List.replicate 32 0)).toArray) 32 rfl Tryd.underlying28 info32c rfl (by decide) (by decide) _ ((yss.map twiceP).take k) (twiceP ys) P (fun _ => True) (fun _ => False) rfl (by first | (go_simp; done) | (go_simp; rfl)) (HCM.out _) (fun _ h => h.elim) (fun _ _ => trivial) HL3.out HB3.out HB3.out.size HTB.out ?_; intro v4 w4 ho hb hg hat; have HL4 := Lib.hid ho; have HB4 := Lib.hid hb; have HR4 := Lib.hid (Kd.R_over HR3.out HL3.out ty_d hg); clear ho hb hg hat)
      have hwk : wrap64 ((k : Int) + 1) = ((k + 1 : Nat) : Int) := by rw [IntWalk.wrap64_in _ ⟨by omega, by omega⟩]; omega
      try rw [hwk]
      go_roundw
      case rel => exact ⟨k + 1, rfl, Lib.hid ⟨hlt, by rw [HTK.out.1]; exact HR4.out, by rw [HTK.out.2]; exact HL4.out, HB4.out⟩⟩
      case measure =>
        simp only [intOf]
        omega
    · have hg2 : ¬ (k : Int) < (n : Int) := by omega
      have e1 : (yss.map strOfNums).take k = yss.map strOfNums := List.take_of_length_le (by rw [List.length_map, ← HN.out.1]; omega)
      have e2 : (yss.map twiceP).take k = yss.map twiceP := List.take_of_length_le (by rw [List.length_map, ← HN.out.1]; omega)
      rw [e1] at hR
      rw [e2] at hL
      have HR0 := Lib.hid hR
      have HL0 := Lib.hid hL
      have HB0 := Lib.hid hB
      clear hR hL hB H e1 e2 hk
      go_wp2_with fail
      obtain ⟨xs, hxs⟩ : ∃ xs, yss.map twiceP = xs := ⟨_, rfl⟩
      have hxl : xs.length = n := by rw [← hxs, List.length_map, HN.out.1]
      have hxH : Hs xs := by
        rw [← hxs]
        intro p hp
        obtain ⟨y, _, rfl⟩ := List.mem_map.1 hp
        exact ⟨twiceP_len _, twiceP_bytes _⟩
      rw [hxs] at HL0
      obtain ⟨A0, c0, rfl⟩ := Kd.R_slice HL0.out
      have hd := depthP_is n
      obtain ⟨d, hde⟩ : ∃ d, depthP n = d := ⟨_, rfl⟩
      rw [hde] at hd
      have HD := Lib.hid (And.intro hd (show textsP yss = textsAt yss d from by unfold textsP; rw [← HN.out.1, hde]))
      have HX := Lib.hid (And.intro hxl (And.intro hxH hxs))
      have hd16 : d ≤ 10 := depth_le hd (m := 10) (by have h10 : (2 : Nat) ^ 10 = 1024 := by decide
                                                      omega)
      have HDE := Lib.hid (fun u : World => (show Calls Tryd.prog 54 #[.int .i64 (n : Int)] u fun e w' => e = .returned (.int .i64 (d : Int)) ∧ Drawn0 u w' from by
        have h := rdepth_calls n u (by omega)
        rw [hde] at h
        exact h))
      rw [hxl]
      rw [hxl] at HL0
      have HC0 := Lib.hid (show n ≤ c0 from (Kd.R_reads' HL0.out).2.1)
      clear hd hde hxl hxH hxs hg2 hlt
      go_loopw [3, 7] (fun v lv wr => ∃ k : Nat, lv = .int .i64 ((k + 1 : Nat) : Int) ∧ Hid (k ≤ d ∧ Kd.R Kd.string 9 wr w.heap.size (fun _ => True) v ((textsAt yss k).map strOfNums) ∧ Kd.R kH 24 wr w.heap.size (fun _ => True) (.slice A0 n c0) xs ∧ Below w.heap.size w wr)) (fun _ lv _ => d + 3 - (intOf lv).toNat)
      case atStart => exact ⟨0, rfl, Lib.hid ⟨Nat.zero_le _, HR0.out, HL0.out, HB0.out⟩⟩
      case round =>
        clear HR0 HL0 HB0
        obtain ⟨k, rfl, H⟩ := hrel
        obtain ⟨hkd, hR, hL, hB⟩ := H.out
        obtain ⟨l1, hl1⟩ : ∃ x, k + 1 = x := ⟨_, rfl⟩
        rw [hl1]
        have HL1 := Lib.hid hl1
        by_cases hkd2 : k < d
        · have g1 : (l1 : Int) ≤ (d : Int) := by omega
          have g2 : ¬ (d : Int) < (l1 : Int) := by omega
          have hwm : IntKind.i64.wrap ((l1 : Int) - 1) = (k : Int) := by rw [IntWalk.i64_in _ (by omega)]; omega
          obtain ⟨wb, hwb⟩ : ∃ x, wideP n k = x := ⟨_, rfl⟩
          obtain ⟨wu, hwu⟩ : ∃ x, wideP n l1 = x := ⟨_, rfl⟩
          have hwbu : wu = (wb + 1) / 2 := by rw [← hwu, ← hwb, ← hl1]; rfl
          have hwbn : wb ≤ n := by rw [← hwb]; exact wideP_le n k
          have HWB := Lib.hid (fun u : World => (show Calls Tryd.prog 56 #[.int .i64 (n : Int), .int .i64 (k : Int)] u fun e w' => e = .returned (.int .i64 (wb : Int)) ∧ Drawn0 u w' from by
            have h := rwide_calls n k u (by omega) (by omega)
            rw [hwb] at h
            exact h))
          have HWU := Lib.hid (fun u : World => (show Calls Tryd.prog 56 #[.int .i64 (n : Int), .int .i64 (l1 : Int)] u fun e w' => e = .returned (.int .i64 (wu : Int)) ∧ Drawn0 u w' from by
            have h := rwide_calls n l1 u (by omega) (by omega)
            rw [hwu] at h
            exact h))
          have HWW := Lib.hid (And.intro hwb (And.intro hwbu hwbn))
          have HRR := Lib.hid hR
          have HLL := Lib.hid hL
          have HBB := Lib.hid hB
          clear hR hL hB H hwb hwu hwbu hwbn hl1
          go_wp2_with fail
          refine (HDE.out _).mono ?_
          rintro e w1 ⟨rfl, hb1⟩
          have HX1 := Lib.hid hb1.below
          clear hb1
          go_wp2_with fail
          refine (HWB.out _).mono ?_
          rintro e w2 ⟨rfl, hb2⟩
          have HX2 := Lib.hid (HX1.out.trans (Below.mono hb2.below HX1.out.size))
          clear hb2
          go_wp2_with fail
          have HB2 := Lib.hid (HBB.out.trans (Below.mono HX2.out HBB.out.size))
          have HR2 := Lib.hid (Kd.R_below HRR.out HX2.out)
          have HL2 := Lib.hid (Kd.R_below HLL.out HX2.out)
          clear HRR HLL HBB HX1 HX2
          go_loopw [3, 9] (fun v at9 wr => ∃ m : Nat, at9 = .int .i64 (m : Int) ∧ Hid (m ≤ wu ∧ Kd.R Kd.string 9 wr w.heap.size (fun _ => True) v ((textsAt yss k ++ (rowT (lev xs k)).take m).map strOfNums) ∧ Kd.R kH 24 wr w.heap.size (fun _ => True) (.slice A0 n c0) xs ∧ Below w.heap.size w wr)) (fun _ at9 _ => wu + 1 - (intOf at9).toNat)
          case atStart => exact ⟨0, rfl, Lib.hid ⟨Nat.zero_le _, by simpa using HR2.out, HL2.out, HB2.out⟩⟩
          case round =>
            clear HR2 HL2 HB2
            obtain ⟨m, rfl, H⟩ := hrel
            obtain ⟨hmu, hR, hL, hB⟩ := H.out
            have hll : (lev xs k).length = wb := by rw [lev_len, HX.out.1, HWW.out.1]
            have hrl : (rowT (lev xs k)).length = wu := by rw [rowT_len, hll, HWW.out.2.1]
            by_cases hmlt : m < wu
            · have gm : (m : Int) < (wu : Int) := by omega
              have gm0 : (0 : Int) ≤ (m : Int) := by omega
              have HM := Lib.hid hmlt
              have HHL := Lib.hid (lev_Hs HX.out.2.1 k)
              obtain ⟨i0, hi0⟩ : ∃ x, 2 * m = x := ⟨_, rfl⟩
              have hi0b : i0 < wb := by have := HWW.out.2.1; omega
              obtain ⟨j, hj⟩ : ∃ x, min (i0 + 1) (wb - 1) = x := ⟨_, rfl⟩
              have hpr : pairT (lev xs k) m = rdH (lev xs k) i0 ++ rdH (lev xs k) j := by unfold pairT; rw [hll, hi0, hj]
              have htk : ((textsAt yss k ++ (rowT (lev xs k)).take (m + 1)).map strOfNums) = ((textsAt yss k ++ (rowT (lev xs k)).take m).map strOfNums) ++ [strOfNums (pairT (lev xs k) m)] := by
                rw [rowT_take (by rw [← rowT_len, hrl]; exact hmlt), ← List.append_assoc, List.map_append]
                rfl
              have hno : nodeP xs k i0 = rdH (lev xs k) i0 := nodeP_lev xs k i0 (by rw [HX.out.1, HWW.out.1]; exact hi0b)
              have HNO := Lib.hid (show ∀ u : World, Kd.C kH u A0 n xs → Calls Tryd.prog 53 #[.slice A0 n c0, .int .i64 (k : Int), .int .i64 (i0 : Int)] u fun e w' => e = .returned (.agg (nums .u8 (rdH (lev xs k) i0)).toArray) ∧ Below u.heap.size u w' from fun u hu => by
                have h := rnode_calls A0 n c0 xs HX.out.1.symm HC0.out (by omega) HX.out.2.1 k i0 u hu (by rw [HWW.out.1]; exact hi0b) (by omega)
                rw [hno] at h
                exact h)
              have HNO2 := Lib.hid (show i0 + 1 < wb → ∀ u : World, Kd.C kH u A0 n xs → Calls Tryd.prog 53 #[.slice A0 n c0, .int .i64 (k : Int), .int .i64 ((i0 : Int) + 1)] u fun e w' => e = .returned (.agg (nums .u8 (rdH (lev xs k) j)).toArray) ∧ Below u.heap.size u w' from fun hlt9 u hu => by
                have h := rnode_calls A0 n c0 xs HX.out.1.symm HC0.out (by omega) HX.out.2.1 k (i0 + 1) u hu (by rw [HWW.out.1]; exact hlt9) (by omega)
                rw [nodeP_lev xs k (i0 + 1) (by rw [HX.out.1, HWW.out.1]; exact hlt9)] at h
                rw [show j = i0 + 1 by omega]
                exact h)
              have hp := HHL.out.any i0
              have hq := HHL.out.any j
              have hpqj : wb ≤ i0 + 1 → rdH (lev xs k) j = rdH (lev xs k) i0 := fun h => by rw [show j = i0 by omega]
              obtain ⟨p, hpe⟩ : ∃ p, rdH (lev xs k) i0 = p := ⟨_, rfl⟩
              obtain ⟨q, hqe⟩ : ∃ q, rdH (lev xs k) j = q := ⟨_, rfl⟩
              rw [hpe] at hp HNO hpr hpqj
              rw [hqe] at hq HNO2 hpr hpqj
              rw [hpr] at htk
              have hadd : strOfNums p ++ strOfNums q = strOfNums (p ++ q) := (str_append p q).symm
              have hs1 := strOfNums_size p
              have hs2 := strOfNums_size q
              obtain ⟨T1, hT1⟩ : ∃ T, strOfNums p = T := ⟨_, rfl⟩
              obtain ⟨T2, hT2⟩ : ∃ T, strOfNums q = T := ⟨_, rfl⟩
              obtain ⟨T3, hT3⟩ : ∃ T, strOfNums (p ++ q) = T := ⟨_, rfl⟩
              rw [hT1] at hadd hs1
              rw [hT2] at hadd hs2
              rw [hT3] at hadd htk
              have hle : (9223372036854775807 < T1.size + T2.size) = False := eq_false (by rw [hs1, hs2, hp.1, hq.1]; omega)
              have hmax : T1.size + T2.size ≤ 9223372036854775807 := by rw [hs1, hs2, hp.1, hq.1]; omega
              have HLE := Lib.hid (And.intro hle hmax)
              have HTT := Lib.hid (And.intro hT1 (And.intro hT2 hT3))
              clear hle hmax
              have HPQ := Lib.hid (And.intro hp.1 hq.1)
              have HTK := Lib.hid htk
              have HJ := Lib.hid hpqj
              have hla := textsAt_len yss k
              have HLT := Lib.hid (show (((textsAt yss k ++ (rowT (lev xs k)).take m).map strOfNums).length + 1) * 16 ≤ 140737488355328 from by
                rw [List.length_map, List.length_append, List.length_take, hrl]
                have h7 := HWW.out.2
                rw [← HN.out.1] at hla
                have h9 : (k + 1) * n ≤ 11 * 1000 := Nat.mul_le_mul (by omega) hl
                omega)
              have HIP := Lib.hid (show ∀ X : List Int, X.length = 32 → (Tryd.prog.info? 24).map (·.size) = some (nums .u8 X).toArray.size ∧ Z.size = (nums .u8 X).toArray.size ∧ (nums .u8 X).toArray.all (·.oneCell') = true from fun X h => ⟨by rw [List.size_toArray, nums_len, h]; exact (zero_of_info info32b).2, by rw [HZS.out, List.size_toArray, nums_len, h], all_oneCell_toArray (nums_one _ _)⟩)
              have hu := Tryd.underlying24
              have hw1 : IntKind.i64.wrap (2 * (m : Int)) = (i0 : Int) := by rw [IntWalk.i64_in _ (by have := HWW.out.2; omega)]; omega
              have hw3 : IntKind.i64.wrap ((i0 : Int) + 1) = (i0 : Int) + 1 := IntWalk.i64_in _ (by have := HWW.out.2; omega)
              have HRR := Lib.hid hR
              have HLL := Lib.hid hL
              have HBB := Lib.hid hB
              have HI0 := Lib.hid (And.intro hi0 hi0b)
              clear hR hL hB H hmu hll hrl hi0 hi0b hj hpr htk hno hp hq hpqj hpe hqe hs1 hs2 hT1 hT2 hT3 hla hmlt
              go_wp2_with fail
              refine (HWU.out _).mono ?_
              rintro e w3 ⟨rfl, hb3⟩
              have HB3 := Lib.hid (HBB.out.trans (Below.mono hb3.below HBB.out.size))
              have HR3 := Lib.hid (Kd.R_below HRR.out hb3.below)
              have HL3 := Lib.hid (Kd.R_below HLL.out hb3.below)
              have HC3 := Lib.hid (show Kd.C kH w3 A0 n xs from by have h9 := (Kd.R_reads' HL3.out).2.2; rw [HX.out.1] at h9; exact h9)
              clear hb3
              have HNO3 := Lib.hid (HNO.out w3 HC3.out)
              go_wp2_with fail
              refine HNO3.out.mono ?_
              rintro e w4 ⟨rfl, hb4⟩
              have HB4 := Lib.hid (HB3.out.trans (Below.mono hb4 HB3.out.size))
              have HR4 := Lib.hid (Kd.R_below HR3.out hb4)
              have HL4 := Lib.hid (Kd.R_below HL3.out hb4)
              clear hb4 HNO3 HC3 HR3 HL3 HRR HLL
              have HOW0 := Lib.hid (show ∀ kk, u3.ownBlock = some kk → kk < w4.heap.size from fun kk h => Kd.R_lt HR4.out kk h)
              obtain ⟨g10, hg10⟩ : ∃ g, w4.heap.size = g := ⟨_, rfl⟩
              have k10 := heap_alloc_new w4 (.cells (nums .u8 p).toArray 24)
              obtain ⟨W5, hW5⟩ : ∃ W, w4.alloc (.cells (nums .u8 p).toArray 24) = W := ⟨_, rfl⟩
              have hs5 : W5.heap.size = g10 + 1 := by rw [← hW5, ← hg10]; exact Array.size_push _
              rw [hW5, hg10] at k10
              have HW5 := Lib.hid (And.intro hW5 hg10)
              have HK10 := Lib.hid k10
              have HB5 := Lib.hid (show Below w.heap.size w W5 from by rw [← hW5]; exact below_alloc HB4.out _)
              have HR5 := Lib.hid (show Kd.R Kd.string 9 W5 w.heap.size (fun _ => True) u3 ((textsAt yss k ++ (rowT (lev xs k)).take m).map strOfNums) from by rw [← hW5]; exact Kd.R_alloc HR4.out _)
              have HL5 := Lib.hid (show Kd.R kH 24 W5 w.heap.size (fun _ => True) (.slice A0 n c0) xs from by rw [← hW5]; exact Kd.R_alloc HL4.out _)
              have k10' := blk_alloc k10 (.cells (nums .u8 p).toArray 24)
              have k11 := heap_alloc_new W5 (.cells (nums .u8 p).toArray 24)
              obtain ⟨W6, hW6⟩ : ∃ W, W5.alloc (.cells (nums .u8 p).toArray 24) = W := ⟨_, rfl⟩
              obtain ⟨g11, hg11⟩ : ∃ g, W5.heap.size = g := ⟨_, rfl⟩
              rw [hW6] at k10' k11
              rw [hg11] at k11
              have HW6 := Lib.hid (And.intro hW6 hg11)
              have HK6 := Lib.hid (And.intro k10' k11)
              have HB6 := Lib.hid (show Below w.heap.size w W6 from by rw [← hW6]; exact below_alloc HB5.out _)
              have HR6 := Lib.hid (show Kd.R Kd.string 9 W6 w.heap.size (fun _ => True) u3 ((textsAt yss k ++ (rowT (lev xs k)).take m).map strOfNums) from by rw [← hW6]; exact Kd.R_alloc HR5.out _)
              have HL6 := Lib.hid (show Kd.R kH 24 W6 w.heap.size (fun _ => True) (.slice A0 n c0) xs from by rw [← hW6]; exact Kd.R_alloc HL5.out _)
              have HG := Lib.hid (show g11 = g10 + 1 from by rw [← hg11, hs5])
              have HOW := Lib.hid (show some g10 ≠ u3.ownBlock ∧ some g11 ≠ u3.ownBlock from ⟨fun e => by have := HOW0.out _ e.symm; omega, fun e => by have := HOW0.out _ e.symm; have := HG.out; omega⟩)
              have hip := HIP.out p HPQ.out.1
              have hiq := HIP.out q HPQ.out.2
              have HIPQ := Lib.hid (And.intro hip hiq)
              clear hW5 hg10 k10 hs5 k10' k11 hW6 hg11 hip hiq
              have HC6 := Lib.hid (show Kd.C kH W6 A0 n xs from by have h9 := (Kd.R_reads' HL6.out).2.2; rw [HX.out.1] at h9; exact h9)
              by_cases hjl : i0 + 1 < wb
              · have gj : (i0 : Int) + 1 < (wb : Int) := by clear hw1 hw3; omega
                have HNO6 := Lib.hid (HNO2.out hjl W6 HC6.out)
                clear hjl
                go_wp2_with (first
                  | ((with_reducible show wpList _ _ _ (Oper.mk _ (Op.store _ (.tmp 10) _) _ _ _ _ :: _) _ _); (go_loud (refine wpl_store_new rfl 24 (.tmp 10) (.tmp 53) rfl Z (nums .u8 p).toArray rfl rfl HIPQ.out.1.1 HIPQ.out.1.2.1 HIPQ.out.1.2.2 ?_)))
                  | ((with_reducible show wpList _ _ _ (Oper.mk _ (Op.load _ (.tmp 10)) _ _ _ _ :: _) _ _); rw [HW5.out.1, HW5.out.2]; (go_loud (refine wpList_load_row rfl 24 (.tmp 10) rfl g10 rfl 24 (nums .u8 p).toArray (0, 0) _ HK10.out hu rfl HIPQ.out.1.1 ?_)))
                  | ((with_reducible show wpList _ _ _ (Oper.mk _ (Op.store _ (.tmp 11) (.tmp 54)) _ _ _ _ :: _) _ _); (go_loud (refine wpl_store_new rfl 24 (.tmp 11) (.tmp 54) rfl Z (nums .u8 p).toArray rfl rfl HIPQ.out.1.1 HIPQ.out.1.2.1 HIPQ.out.1.2.2 ?_); rw [HW6.out.1, HW6.out.2])))
                refine HNO6.out.mono ?_
                rintro e w7 ⟨rfl, hb7⟩
                have hB7 := HB6.out.trans (Below.mono hb7 HB6.out.size)
                have h10 := (hb7.block _ (blk_lt HK6.out.1)).trans HK6.out.1
                have h11 := (hb7.block _ (blk_lt HK6.out.2)).trans HK6.out.2
                have HK11 := Lib.hid h11
                have hgw : w.heap.size ≤ g11 := by have h1 := HB4.out.size; have h2 := HG.out; have h3 := HW5.out.2; omega
                have HVP := Lib.hid ((setRow_other w7 g11 g10 (nums .u8 q).toArray (by have := HG.out; omega)).trans h10)
                have HVQ := Lib.hid (setRow_heap _ _ _ (nums .u8 q).toArray _ _ h11)
                have hfar : ∀ kk, kk < w4.heap.size → (w7.setRow g11 (nums .u8 q).toArray).heap[kk]? = w4.heap[kk]? := fun kk hlt => by
                  have h2 := HG.out
                  have h3 := HW5.out.2
                  rw [setRow_other w7 g11 kk _ (by omega)]
                  have h5 : W5.heap[kk]? = w4.heap[kk]? := by rw [← HW5.out.1]; exact heap_alloc_old w4 _ hlt
                  have h5s : W5.heap.size = w4.heap.size + 1 := by rw [← HW5.out.1]; exact Array.size_push _
                  have h6 : W6.heap[kk]? = W5.heap[kk]? := by rw [← HW6.out.1]; exact heap_alloc_old W5 _ (by omega)
                  have h6s : W6.heap.size = W5.heap.size + 1 := by rw [← HW6.out.1]; exact Array.size_push _
                  exact (hb7.block kk (by omega)).trans (h6.trans h5)
                have HVR := Lib.hid (Kd.R_step HR4.out (fun kk _ hlt => hfar kk hlt))
                have HVL := Lib.hid (Kd.R_step HL4.out (fun kk _ hlt => hfar kk hlt))
                have HVB := Lib.hid (below_setRow hB7 hgw (nums .u8 q).toArray)
                obtain ⟨V, hV⟩ : ∃ W, w7.setRow g11 (nums .u8 q).toArray = W := ⟨_, rfl⟩
                rw [hV] at HVP HVQ HVR HVL HVB
                have HV := Lib.hid hV
                clear hb7 hB7 h10 h11 hgw hfar hV HNO6
                go_wp2_with ((with_reducible show wpList _ _ _ (Oper.mk _ (Op.store _ (.tmp 11) (.tmp 66)) _ _ _ _ :: _) _ _); (go_loud (refine wpList_store_row rfl 24 (.tmp 11) (.tmp 66) rfl g11 (nums .u8 q).toArray rfl rfl 24 (nums .u8 p).toArray HK11.out HIPQ.out.2.1 (by rw [← HIPQ.out.1.2.1, HIPQ.out.2.2.1]) HIPQ.out.2.2.2 ?_)); rw [HV.out])
                clear hw1 hw3
                have HSS := Lib.hid (show ∀ u : World, u.heap[g10]? = some (.cells (nums .u8 p).toArray 24 (0, 0)) → u.heap[g11]? = some (.cells (nums .u8 q).toArray 24 (0, 0)) → (convert 33 9 (.slice (some ⟨g10, 0, none⟩) 32 32)).run Tryd.prog u = .ok (.string T1) u ∧ (convert 33 9 (.slice (some ⟨g11, 0, none⟩) 32 32)).run Tryd.prog u = .ok (.string T2) u from fun u h1 h2 => by
                  rw [← HTT.out.1, ← HTT.out.2.1]
                  exact ⟨str32 HPQ.out.1 h1, str32 HPQ.out.2 h2⟩)
                have hHeld := HSS.out V.drew HVP.out HVQ.out
                have hs := fun W g => slice_all32 W g
                have hb1 := fun u => run_build1s T3 u
                have hle := HLE.out.1
                have hmax := HLE.out.2
                refine wp_region_held (S := fun u => (convert 33 9 (.slice (some ⟨g10, 0, none⟩) 32 32)).run Tryd.prog u = .ok (.string T1) u ∧ (convert 33 9 (.slice (some ⟨g11, 0, none⟩) 32 32)).run Tryd.prog u = .ok (.string T2) u) (by kernel_rfl) ?_
                change wpAnyH _ _ _ _ _ _ _ _ (World.drew _)
                refine wpAnyH_take (i := 0) (oi := ({ dst := some 67, op := Op.move (Operand.tmp 3), type := 68, pos := "ref.go:26", after := #[], guard := none } : Oper)) (v := u3) rfl (by kernel_rfl) (by kernel_rfl) (by kernel_rfl) (fun _ _ _ h => h) (Or.inl ⟨by rfl, fun w hSw => by go_simp⟩) hHeld ?_
                simp only [Act.put, List.setIfInBounds_toArray, List.set_cons_zero, List.set_cons_succ]
                refine wpAnyH_take (i := 1) (oi := ({ dst := some 68, op := Op.slice 24 (Operand.tmp 10) none none none, type := 33, pos := "ref.go:26", after := #[], guard := none } : Oper)) (v := .slice (some ⟨g10, 0, none⟩) 32 32) rfl (by kernel_rfl) (by kernel_rfl) (by kernel_rfl) (fun _ _ _ h => h) (Or.inl ⟨by rfl, fun w hSw => by go_simp⟩) hHeld ?_
                simp only [Act.put, List.setIfInBounds_toArray, List.set_cons_zero, List.set_cons_succ]
                refine wpAnyH_take (i := 2) (oi := ({ dst := some 69, op := Op.convert 33 9 (Operand.tmp 68), type := 9, pos := "ref.go:26", after := #[{ on := 1, ground := Ground.data }], guard := none } : Oper)) (v := .string T1) rfl (by kernel_rfl) (by kernel_rfl) (by kernel_rfl) (fun _ _ _ h => h) (Or.inl ⟨by rfl, fun w hSw => by obtain ⟨z1, z2⟩ := hSw; go_simp⟩) hHeld ?_
                simp only [Act.put, List.setIfInBounds_toArray, List.set_cons_zero, List.set_cons_succ]
                refine wpAnyH_take (i := 3) (oi := ({ dst := some 70, op := Op.slice 24 (Operand.tmp 11) none none none, type := 33, pos := "ref.go:26", after := #[], guard := none } : Oper)) (v := .slice (some ⟨g11, 0, none⟩) 32 32) rfl (by kernel_rfl) (by kernel_rfl) (by kernel_rfl) (fun _ _ _ h => h) (Or.inl ⟨by rfl, fun w hSw => by go_simp⟩) hHeld ?_
                simp only [Act.put, List.setIfInBounds_toArray, List.set_cons_zero, List.set_cons_succ]
                refine wpAnyH_take (i := 4) (oi := ({ dst := some 71, op := Op.convert 33 9 (Operand.tmp 70), type := 9, pos := "ref.go:26", after := #[{ on := 3, ground := Ground.data }], guard := none } : Oper)) (v := .string T2) rfl (by kernel_rfl) (by kernel_rfl) (by kernel_rfl) (fun _ _ _ h => h) (Or.inl ⟨by rfl, fun w hSw => by obtain ⟨z1, z2⟩ := hSw; go_simp⟩) hHeld ?_
                simp only [Act.put, List.setIfInBounds_toArray, List.set_cons_zero, List.set_cons_succ]
                refine wpAnyH_take (i := 5) (oi := ({ dst := some 72, op := Op.binOp BinOp.add 9 (Operand.tmp 69) (Operand.tmp 71) 9, type := 9, pos := "ref.go:26", after := #[{ on := 2, ground := Ground.data }, { on := 4, ground := Ground.data }], guard := none } : Oper)) (v := .string T3) rfl (by kernel_rfl) (by kernel_rfl) (by kernel_rfl) (fun _ _ _ h => h) (Or.inl ⟨by rfl, fun w hSw => by go_simp⟩) hHeld ?_
                simp only [Act.put, List.setIfInBounds_toArray, List.set_cons_zero, List.set_cons_succ]
                have HVD := Lib.hid (Kd.R_below HVR.out (below_drew (Below.refl V.heap.size V)))
                have HVE := Lib.hid (Kd.R_below HVL.out (below_drew (Below.refl V.heap.size V)))
                have HVF := Lib.hid (HVB.out.trans (Below.mono (below_drew (Below.refl V.heap.size V)) HVB.out.size))
                refine wpAnyH_ready (rs := [6]) (by kernel_rfl) (by simp) ?_
                refine AllReadyH.cons (o := ({ dst := some 73, op := Op.buildSlice 68 1 #[(0, Operand.tmp 72)], type := 68, pos := "ref.go:26", after := #[{ on := 5, ground := Ground.data }], guard := none } : Oper)) rfl (fun K hK => ?_) AllReadyH.nil
                go_simp
                refine hK.out _ _ (HSS.out _ (blk_alloc HVP.out _) (blk_alloc HVQ.out _)) (fun hHeld => ?_)
                clear hK K
                try simp only [Act.put, List.setIfInBounds_toArray, List.set_cons_zero, List.set_cons_succ]
                refine wpAnyH_ready (rs := [7]) (by kernel_rfl) (by simp) ?_
                refine AllReadyH.cons (o := ({ dst := some 74, op := Op.call { callee := Callee.builtin Builtin.append, args := #[Operand.tmp 67, Operand.tmp 73], argTypes := #[68, 68] }, type := 68, pos := "ref.go:26", after := #[{ on := 0, ground := Ground.data }, { on := 6, ground := Ground.data }], guard := none } : Oper)) rfl (fun K hK => ?_) AllReadyH.nil
                refine Kd.R_append_step Kd.string (W := V.drew) (w0 := w) w.heap.size (by rfl) (.tmp 67) (.tmp 73) 68 9 (.string ⟨#[]⟩) 16 (by rfl) Tryd.underlying68 infoS9 rfl (by decide) (by decide) u3 ((textsAt yss k ++ (rowT (lev xs k)).take m).map strOfNums) T3 [.string T3] (fun _ => True) (fun _ => False) (by rfl) (by rfl) rfl (fun _ h => h.elim) (fun _ _ => trivial) HVD.out HVF.out HVF.out.size HLT.out ?_
                intro v9 w9 ho hb hg hat
                have HR9 := Lib.hid ho
                have HB9 := Lib.hid hb
                have HL9 := Lib.hid (Kd.R_over HVE.out HVD.out ty_c hg)
                have HG9 := Lib.hid hg
                clear ho hb hg hat
                refine hK.out _ _ (HSS.out _ ((HG9.out.block g10 (blk_lt HVP.out) (HOW.out.1)).trans HVP.out) ((HG9.out.block g11 (blk_lt HVQ.out) (HOW.out.2)).trans HVQ.out)) (fun hHeld => ?_)
                clear hK K
                try simp only [Act.put, List.setIfInBounds_toArray, List.set_cons_zero, List.set_cons_succ]
                refine wpAnyH_take (i := 8) (oi := ({ dst := some 3, op := Op.assign (Operand.tmp 74), type := 68, pos := "ref.go:26", after := #[{ on := 7, ground := Ground.data }, { on := 7, ground := Ground.chain }, { on := 0, ground := Ground.phase }, { on := 1, ground := Ground.phase }, { on := 2, ground := Ground.phase }, { on := 3, ground := Ground.phase }, { on := 4, ground := Ground.phase }, { on := 5, ground := Ground.phase }, { on := 6, ground := Ground.phase }, { on := 7, ground := Ground.phase }], guard := none } : Oper)) (v := v9) rfl (by kernel_rfl) (by kernel_rfl) (by kernel_rfl) (fun _ _ _ h => h) (Or.inl ⟨by rfl, fun w hSw => by go_simp⟩) hHeld ?_
                simp only [Act.put, List.setIfInBounds_toArray, List.set_cons_zero, List.set_cons_succ]
                refine wpAnyH_done (by kernel_rfl) ?_ _
                clear hHeld hs hb1 hadd hle hmax
                go_wp2_with fail
                have hwk : wrap64 ((m : Int) + 1) = ((m + 1 : Nat) : Int) := by rw [IntWalk.wrap64_in _ ⟨by omega, by have h1 := HWW.out.2; omega⟩]; omega
                try rw [hwk]
                go_roundw
                case rel => exact ⟨m + 1, rfl, Lib.hid ⟨HM.out, by rw [HTK.out]; exact HR9.out, HL9.out, HB9.out⟩⟩
                case measure => exact meas9 HM.out
              · have gj : ¬ (i0 : Int) + 1 < (wb : Int) := by clear hw1 hw3; omega
                have hqp : q = p := HJ.out (Nat.le_of_not_lt hjl)
                have HVP := Lib.hid HK6.out.1
                have HVQ := Lib.hid (show W6.heap[g11]? = some (.cells (nums .u8 q).toArray 24 (0, 0)) from by rw [hqp]; exact HK6.out.2)
                clear hqp
                have HVR := HR6
                have HVL := HL6
                have HVB := HB6
                go_wp2_with (first
                  | ((with_reducible show wpList _ _ _ (Oper.mk _ (Op.store _ (.tmp 10) _) _ _ _ _ :: _) _ _); (go_loud (refine wpl_store_new rfl 24 (.tmp 10) (.tmp 53) rfl Z (nums .u8 p).toArray rfl rfl HIPQ.out.1.1 HIPQ.out.1.2.1 HIPQ.out.1.2.2 ?_)))
                  | ((with_reducible show wpList _ _ _ (Oper.mk _ (Op.load _ (.tmp 10)) _ _ _ _ :: _) _ _); rw [HW5.out.1, HW5.out.2]; (go_loud (refine wpList_load_row rfl 24 (.tmp 10) rfl g10 rfl 24 (nums .u8 p).toArray (0, 0) _ HK10.out hu rfl HIPQ.out.1.1 ?_)))
                  | ((with_reducible show wpList _ _ _ (Oper.mk _ (Op.store _ (.tmp 11) (.tmp 54)) _ _ _ _ :: _) _ _); (go_loud (refine wpl_store_new rfl 24 (.tmp 11) (.tmp 54) rfl Z (nums .u8 p).toArray rfl rfl HIPQ.out.1.1 HIPQ.out.1.2.1 HIPQ.out.1.2.2 ?_); rw [HW6.out.1, HW6.out.2])))
                generalize W6 = V at *
                clear hw1 hw3
                have HSS := Lib.hid (show ∀ u : World, u.heap[g10]? = some (.cells (nums .u8 p).toArray 24 (0, 0)) → u.heap[g11]? = some (.cells (nums .u8 q).toArray 24 (0, 0)) → (convert 33 9 (.slice (some ⟨g10, 0, none⟩) 32 32)).run Tryd.prog u = .ok (.string T1) u ∧ (convert 33 9 (.slice (some ⟨g11, 0, none⟩) 32 32)).run Tryd.prog u = .ok (.string T2) u from fun u h1 h2 => by
                  rw [← HTT.out.1, ← HTT.out.2.1]
                  exact ⟨str32 HPQ.out.1 h1, str32 HPQ.out.2 h2⟩)
                have hHeld := HSS.out V.drew HVP.out HVQ.out
                have hs := fun W g => slice_all32 W g
                have hb1 := fun u => run_build1s T3 u
                have hle := HLE.out.1
                have hmax := HLE.out.2
                refine wp_region_held (S := fun u => (convert 33 9 (.slice (some ⟨g10, 0, none⟩) 32 32)).run Tryd.prog u = .ok (.string T1) u ∧ (convert 33 9 (.slice (some ⟨g11, 0, none⟩) 32 32)).run Tryd.prog u = .ok (.string T2) u) (by kernel_rfl) ?_
                change wpAnyH _ _ _ _ _ _ _ _ (World.drew _)
                refine wpAnyH_take (i := 0) (oi := ({ dst := some 67, op := Op.move (Operand.tmp 3), type := 68, pos := "ref.go:26", after := #[], guard := none } : Oper)) (v := u3) rfl (by kernel_rfl) (by kernel_rfl) (by kernel_rfl) (fun _ _ _ h => h) (Or.inl ⟨by rfl, fun w hSw => by go_simp⟩) hHeld ?_
                simp only [Act.put, List.setIfInBounds_toArray, List.set_cons_zero, List.set_cons_succ]
                refine wpAnyH_take (i := 1) (oi := ({ dst := some 68, op := Op.slice 24 (Operand.tmp 10) none none none, type := 33, pos := "ref.go:26", after := #[], guard := none } : Oper)) (v := .slice (some ⟨g10, 0, none⟩) 32 32) rfl (by kernel_rfl) (by kernel_rfl) (by kernel_rfl) (fun _ _ _ h => h) (Or.inl ⟨by rfl, fun w hSw => by go_simp⟩) hHeld ?_
                simp only [Act.put, List.setIfInBounds_toArray, List.set_cons_zero, List.set_cons_succ]
                refine wpAnyH_take (i := 2) (oi := ({ dst := some 69, op := Op.convert 33 9 (Operand.tmp 68), type := 9, pos := "ref.go:26", after := #[{ on := 1, ground := Ground.data }], guard := none } : Oper)) (v := .string T1) rfl (by kernel_rfl) (by kernel_rfl) (by kernel_rfl) (fun _ _ _ h => h) (Or.inl ⟨by rfl, fun w hSw => by obtain ⟨z1, z2⟩ := hSw; go_simp⟩) hHeld ?_
                simp only [Act.put, List.setIfInBounds_toArray, List.set_cons_zero, List.set_cons_succ]
                refine wpAnyH_take (i := 3) (oi := ({ dst := some 70, op := Op.slice 24 (Operand.tmp 11) none none none, type := 33, pos := "ref.go:26", after := #[], guard := none } : Oper)) (v := .slice (some ⟨g11, 0, none⟩) 32 32) rfl (by kernel_rfl) (by kernel_rfl) (by kernel_rfl) (fun _ _ _ h => h) (Or.inl ⟨by rfl, fun w hSw => by go_simp⟩) hHeld ?_
                simp only [Act.put, List.setIfInBounds_toArray, List.set_cons_zero, List.set_cons_succ]
                refine wpAnyH_take (i := 4) (oi := ({ dst := some 71, op := Op.convert 33 9 (Operand.tmp 70), type := 9, pos := "ref.go:26", after := #[{ on := 3, ground := Ground.data }], guard := none } : Oper)) (v := .string T2) rfl (by kernel_rfl) (by kernel_rfl) (by kernel_rfl) (fun _ _ _ h => h) (Or.inl ⟨by rfl, fun w hSw => by obtain ⟨z1, z2⟩ := hSw; go_simp⟩) hHeld ?_
                simp only [Act.put, List.setIfInBounds_toArray, List.set_cons_zero, List.set_cons_succ]
                refine wpAnyH_take (i := 5) (oi := ({ dst := some 72, op := Op.binOp BinOp.add 9 (Operand.tmp 69) (Operand.tmp 71) 9, type := 9, pos := "ref.go:26", after := #[{ on := 2, ground := Ground.data }, { on := 4, ground := Ground.data }], guard := none } : Oper)) (v := .string T3) rfl (by kernel_rfl) (by kernel_rfl) (by kernel_rfl) (fun _ _ _ h => h) (Or.inl ⟨by rfl, fun w hSw => by go_simp⟩) hHeld ?_
                simp only [Act.put, List.setIfInBounds_toArray, List.set_cons_zero, List.set_cons_succ]
                have HVD := Lib.hid (Kd.R_below HVR.out (below_drew (Below.refl V.heap.size V)))
                have HVE := Lib.hid (Kd.R_below HVL.out (below_drew (Below.refl V.heap.size V)))
                have HVF := Lib.hid (HVB.out.trans (Below.mono (below_drew (Below.refl V.heap.size V)) HVB.out.size))
                refine wpAnyH_ready (rs := [6]) (by kernel_rfl) (by simp) ?_
                refine AllReadyH.cons (o := ({ dst := some 73, op := Op.buildSlice 68 1 #[(0, Operand.tmp 72)], type := 68, pos := "ref.go:26", after := #[{ on := 5, ground := Ground.data }], guard := none } : Oper)) rfl (fun K hK => ?_) AllReadyH.nil
                go_simp
                refine hK.out _ _ (HSS.out _ (blk_alloc HVP.out _) (blk_alloc HVQ.out _)) (fun hHeld => ?_)
                clear hK K
                try simp only [Act.put, List.setIfInBounds_toArray, List.set_cons_zero, List.set_cons_succ]
                refine wpAnyH_ready (rs := [7]) (by kernel_rfl) (by simp) ?_
                refine AllReadyH.cons (o := ({ dst := some 74, op := Op.call { callee := Callee.builtin Builtin.append, args := #[Operand.tmp 67, Operand.tmp 73], argTypes := #[68, 68] }, type := 68, pos := "ref.go:26", after := #[{ on := 0, ground := Ground.data }, { on := 6, ground := Ground.data }], guard := none } : Oper)) rfl (fun K hK => ?_) AllReadyH.nil
                refine Kd.R_append_step Kd.string (W := V.drew) (w0 := w) w.heap.size (by rfl) (.tmp 67) (.tmp 73) 68 9 (.string ⟨#[]⟩) 16 (by rfl) Tryd.underlying68 infoS9 rfl (by decide) (by decide) u3 ((textsAt yss k ++ (rowT (lev xs k)).take m).map strOfNums) T3 [.string T3] (fun _ => True) (fun _ => False) (by rfl) (by rfl) rfl (fun _ h => h.elim) (fun _ _ => trivial) HVD.out HVF.out HVF.out.size HLT.out ?_
                intro v9 w9 ho hb hg hat
                have HR9 := Lib.hid ho
                have HB9 := Lib.hid hb
                have HL9 := Lib.hid (Kd.R_over HVE.out HVD.out ty_c hg)
                have HG9 := Lib.hid hg
                clear ho hb hg hat
                refine hK.out _ _ (HSS.out _ ((HG9.out.block g10 (blk_lt HVP.out) (HOW.out.1)).trans HVP.out) ((HG9.out.block g11 (blk_lt HVQ.out) (HOW.out.2)).trans HVQ.out)) (fun hHeld => ?_)
                clear hK K
                try simp only [Act.put, List.setIfInBounds_toArray, List.set_cons_zero, List.set_cons_succ]
                refine wpAnyH_take (i := 8) (oi := ({ dst := some 3, op := Op.assign (Operand.tmp 74), type := 68, pos := "ref.go:26", after := #[{ on := 7, ground := Ground.data }, { on := 7, ground := Ground.chain }, { on := 0, ground := Ground.phase }, { on := 1, ground := Ground.phase }, { on := 2, ground := Ground.phase }, { on := 3, ground := Ground.phase }, { on := 4, ground := Ground.phase }, { on := 5, ground := Ground.phase }, { on := 6, ground := Ground.phase }, { on := 7, ground := Ground.phase }], guard := none } : Oper)) (v := v9) rfl (by kernel_rfl) (by kernel_rfl) (by kernel_rfl) (fun _ _ _ h => h) (Or.inl ⟨by rfl, fun w hSw => by go_simp⟩) hHeld ?_
                simp only [Act.put, List.setIfInBounds_toArray, List.set_cons_zero, List.set_cons_succ]
                refine wpAnyH_done (by kernel_rfl) ?_ _
                clear hHeld hs hb1 hadd hle hmax
                go_wp2_with fail
                have hwk : wrap64 ((m : Int) + 1) = ((m + 1 : Nat) : Int) := by rw [IntWalk.wrap64_in _ ⟨by omega, by have h1 := HWW.out.2; omega⟩]; omega
                try rw [hwk]
                go_roundw
                case rel => exact ⟨m + 1, rfl, Lib.hid ⟨HM.out, by rw [HTK.out]; exact HR9.out, HL9.out, HB9.out⟩⟩
                case measure => exact meas9 HM.out
            · have gm : ¬ (m : Int) < (wu : Int) := by omega
              have htk : (rowT (lev xs k)).take m = rowT (lev xs k) := List.take_of_length_le (by rw [hrl]; omega)
              rw [htk] at hR
              have HR3 := Lib.hid (show Kd.R Kd.string 9 wr w.heap.size (fun _ => True) u3 ((textsAt yss (k + 1)).map strOfNums) from by rw [textsAt, HX.out.2.2]; exact hR)
              have HL3 := Lib.hid hL
              have HB3 := Lib.hid hB
              clear hR hL hB H hmu hll hrl htk
              go_wp2_with fail
              refine (HWU.out _).mono ?_
              rintro e w3 ⟨rfl, hb3⟩
              have HB4 := Lib.hid (HB3.out.trans (Below.mono hb3.below HB3.out.size))
              have HR4 := Lib.hid (Kd.R_below HR3.out hb3.below)
              have HL4 := Lib.hid (Kd.R_below HL3.out hb3.below)
              clear hb3
              go_wp2_with fail
              have hwk : wrap64 ((l1 : Int) + 1) = ((k + 1 + 1 : Nat) : Int) := by rw [IntWalk.wrap64_in _ ⟨by omega, by have := HL1.out; omega⟩]; have := HL1.out; omega
              try rw [hwk]
              go_roundw
              case rel => exact ⟨k + 1, (by have := HL1.out; first | rfl | (congr 1; omega)), Lib.hid ⟨by omega, HR4.out, HL4.out, HB4.out⟩⟩
              case measure =>
                have h1 := HL1.out
                simp only [intOf]
                omega
        · have hke : k = d := by omega
          subst hke
          have g1 : ¬ (l1 : Int) ≤ (k : Int) := by omega
          have g2 : (k : Int) < (l1 : Int) := by omega
          have HRR := Lib.hid (show Kd.R Kd.string 9 wr w.heap.size (fun _ => True) u3 ((textsP yss).map strOfNums) from by rw [HD.out.2]; exact hR)
          have HBB := Lib.hid hB
          clear hR hL hB H hl1
          go_wp2_with fail
          refine (HDE.out _).mono ?_
          rintro e w1 ⟨rfl, hb1⟩
          have HX1 := Lib.hid hb1.below
          clear hb1
          go_wp2_with fail
          go_ret
          exact ⟨_, rfl, Kd.R_below HRR.out HX1.out, HBB.out.trans (Below.mono HX1.out HBB.out.size)⟩
end Go.Proofs.YtlmcdkjobdcflaaDoor.Hand


/- The document's Right: walked. -/
namespace Go.Proofs.YtlmcdkjobdcflaaDoor.Hand
open Go Go.RowKit Go.Proofs.YtlmcdkjobdcflaaDoor.Plain Go.Proofs.YtlmcdkjobdcflaaDoor.PAll Go.Proofs.YtlmcdkjobdcflaaDoorW.PrintWords Go.Proofs.YtlmcdkjobdcflaaDoorW.PrintLast Go.Proofs.YtlmcdkjobdcflaaDoorW.PrintMore
set_option linter.unusedVariables false
set_option linter.unusedSimpArgs false
set_option maxRecDepth 100000
attribute [local go_sem ↓] Go.wp_at_zero Go.wp_at_succ
set_option maxHeartbeats 2000000 in
theorem rright_calls (cnt idx : Int) (A : Option Addr) (m c : Nat) (w : World) (hm : m ≤ 9223372036854775807) (h0 : -9223372036854775808 ≤ cnt) (h1 : cnt ≤ 9223372036854775807) :
    Calls Tryd.prog 38 #[bV cnt idx A m c] w fun e w' => e = .returned (.int .i64 (brightP cnt idx m)) ∧ Below w.heap.size w w' := by
  have hk := heap_alloc_new w (.cells #[.int .i64 cnt, .int .i64 idx, .slice A m c] 46)
  have k0 : (w.alloc (.cells #[.int .i64 cnt, .int .i64 idx, .slice A m c] 46)).cell? ⟨w.heap.size, 0, none⟩ = some (.int .i64 cnt) := (blk_cell hk 0).trans rfl
  have k1 : (w.alloc (.cells #[.int .i64 cnt, .int .i64 idx, .slice A m c] 46)).cell? ⟨w.heap.size, 1, none⟩ = some (.int .i64 idx) := (blk_cell hk 1).trans rfl
  have k2 : (w.alloc (.cells #[.int .i64 cnt, .int .i64 idx, .slice A m c] 46)).cell? ⟨w.heap.size, 2, none⟩ = some (.slice A m c) := (blk_cell hk 2).trans rfl
  have HB := Lib.hid (below_alloc (Below.refl w.heap.size w) (.cells #[.int .i64 cnt, .int .i64 idx, .slice A m c] 46))
  unfold bV
  by_cases hbad : cnt < 1 ∨ 65536 < cnt ∨ idx < 0 ∨ cnt ≤ idx
  · have hv : brightP cnt idx m = 5 := if_pos hbad
    rw [hv]
    clear hv
    go_enter Tryd.func38, Tryd.ntmps38
    go_wp2_with fail
    all_goals go_ret
    all_goals exact ⟨rfl, HB.out⟩
  · have f0 : ¬ cnt < 1 := by omega
    have f1 : ¬ 65536 < cnt := by omega
    have f2 : ¬ idx < 0 := by omega
    have f3 : ¬ cnt ≤ idx := by omega
    have hv0 : brightP cnt idx m = if m ≠ depthP cnt.toNat then 3 else 0 := if_neg hbad
    obtain ⟨q, rfl⟩ : ∃ q : Nat, cnt = (q : Int) := ⟨cnt.toNat, by omega⟩
    have HD := Lib.hid (fun u => rdepth_calls q u (by omega))
    rw [Int.toNat_natCast] at hv0
    obtain ⟨D, hD⟩ : ∃ D, depthP q = D := ⟨_, rfl⟩
    rw [hD] at HD hv0
    clear hD hbad
    by_cases hmd : m = D
    · have hv : brightP (q : Int) idx m = 0 := by rw [hv0, if_neg (by simpa using hmd)]
      subst hmd
      clear hv0
      rw [hv]
      clear hv
      go_enter Tryd.func38, Tryd.ntmps38
      go_wp2_with fail
      obtain ⟨W, hW⟩ : ∃ W, w.alloc (.cells #[.int .i64 (q : Int), .int .i64 idx, .slice A m c] 46) = W := ⟨_, rfl⟩
      rw [hW] at k0 k2 HB ⊢
      have HB1 := Lib.hid (below_drew HB.out)
      have hHeld : W.drew.cell? ⟨w.heap.size, 0, none⟩ = some (.int .i64 (q : Int)) ∧ W.drew.cell? ⟨w.heap.size, 2, none⟩ = some (.slice A m c) := ⟨k0, k2⟩
      have HH := Lib.hid hHeld
      clear k0 k1 k2 hk hW
      refine wp_region_held (S := fun u => u.cell? ⟨w.heap.size, 0, none⟩ = some (.int .i64 (q : Int)) ∧ u.cell? ⟨w.heap.size, 2, none⟩ = some (.slice A m c)) (by kernel_rfl) ?_
      change wpAnyH _ _ _ _ _ _ _ _ (World.drew _)
      refine wpAnyH_take (i := 0) (oi := ({ dst := some 23, op := Op.fieldAddr 46 (Operand.tmp 1) 2, type := 0, pos := "ref.go:34", after := #[], guard := none } : Oper)) (v := .pointer (some ⟨w.heap.size, 2, none⟩)) rfl (by kernel_rfl) (by kernel_rfl) (by kernel_rfl) (fun _ _ _ h => h) (Or.inl ⟨by rfl, fun w hSw => by go_simp⟩) hHeld ?_
      simp only [Act.put, List.setIfInBounds_toArray, List.set_cons_zero, List.set_cons_succ]
      refine wpAnyH_take (i := 1) (oi := ({ dst := some 24, op := Op.load 28 (Operand.tmp 23), type := 28, pos := "ref.go:34", after := #[{ on := 0, ground := Ground.data }], guard := none } : Oper)) (v := .slice A m c) rfl (by kernel_rfl) (by kernel_rfl) (by kernel_rfl) (fun _ _ _ h => h) (Or.inl ⟨by rfl, fun w hSw => by obtain ⟨z0, z2⟩ := hSw; go_simp⟩) hHeld ?_
      simp only [Act.put, List.setIfInBounds_toArray, List.set_cons_zero, List.set_cons_succ]
      refine wpAnyH_take (i := 2) (oi := ({ dst := some 25, op := Op.call { callee := Callee.builtin Builtin.len, args := #[Operand.tmp 24], argTypes := #[28] }, type := 3, pos := "ref.go:34", after := #[{ on := 1, ground := Ground.data }], guard := none } : Oper)) (v := .int .i64 (m : Int)) rfl (by kernel_rfl) (by kernel_rfl) (by kernel_rfl) (fun _ _ _ h => h) (Or.inl ⟨by rfl, fun w hSw => by go_simp⟩) hHeld ?_
      simp only [Act.put, List.setIfInBounds_toArray, List.set_cons_zero, List.set_cons_succ]
      refine wpAnyH_take (i := 3) (oi := ({ dst := some 26, op := Op.fieldAddr 46 (Operand.tmp 1) 0, type := 0, pos := "ref.go:34", after := #[], guard := none } : Oper)) (v := .pointer (some ⟨w.heap.size, 0, none⟩)) rfl (by kernel_rfl) (by kernel_rfl) (by kernel_rfl) (fun _ _ _ h => h) (Or.inl ⟨by rfl, fun w hSw => by go_simp⟩) hHeld ?_
      simp only [Act.put, List.setIfInBounds_toArray, List.set_cons_zero, List.set_cons_succ]
      refine wpAnyH_take (i := 4) (oi := ({ dst := some 27, op := Op.load 3 (Operand.tmp 26), type := 3, pos := "ref.go:34", after := #[{ on := 3, ground := Ground.data }], guard := none } : Oper)) (v := .int .i64 (q : Int)) rfl (by kernel_rfl) (by kernel_rfl) (by kernel_rfl) (fun _ _ _ h => h) (Or.inl ⟨by rfl, fun w hSw => by obtain ⟨z0, z2⟩ := hSw; go_simp⟩) hHeld ?_
      simp only [Act.put, List.setIfInBounds_toArray, List.set_cons_zero, List.set_cons_succ]
      refine wpAnyH_ready (rs := [5]) (by kernel_rfl) (by simp) ?_
      refine AllReadyH.cons (o := ({ dst := some 28, op := Op.call { callee := Callee.value (Operand.func 54), args := #[Operand.tmp 27], argTypes := #[3] }, type := 3, pos := "ref.go:34", after := #[{ on := 4, ground := Ground.data }], guard := none } : Oper)) rfl (fun K hK => ?_) AllReadyH.nil
      go_simp
      (with_reducible refine (HD.out _).mono ?_)
      rintro e w3 ⟨rfl, ⟨nd, rfl⟩⟩
      have HB3 := Lib.hid (pw_below_drewN HB1.out nd)
      refine hK.out _ _ (HH.out) (fun hHeld => ?_)
      clear hK K
      try simp only [Act.put, List.setIfInBounds_toArray, List.set_cons_zero, List.set_cons_succ]
      refine wpAnyH_take (i := 6) (oi := ({ dst := some 29, op := Op.binOp BinOp.neq 3 (Operand.tmp 25) (Operand.tmp 28) 3, type := 4, pos := "ref.go:34", after := #[{ on := 2, ground := Ground.data }, { on := 5, ground := Ground.data }], guard := none } : Oper)) (v := .bool false) rfl (by kernel_rfl) (by kernel_rfl) (by kernel_rfl) (fun _ _ _ h => h) (Or.inl ⟨by rfl, fun w hSw => by go_simp⟩) hHeld ?_
      simp only [Act.put, List.setIfInBounds_toArray, List.set_cons_zero, List.set_cons_succ]
      refine wpAnyH_done (by kernel_rfl) ?_ _
      clear hHeld
      go_wp2_with fail
      go_ret
      exact ⟨rfl, HB3.out⟩
    · have hv : brightP (q : Int) idx m = 3 := by rw [hv0, if_pos hmd]
      have hmi : ¬ (m : Int) = (D : Int) := by omega
      clear hv0
      rw [hv]
      clear hv
      go_enter Tryd.func38, Tryd.ntmps38
      go_wp2_with fail
      obtain ⟨W, hW⟩ : ∃ W, w.alloc (.cells #[.int .i64 (q : Int), .int .i64 idx, .slice A m c] 46) = W := ⟨_, rfl⟩
      rw [hW] at k0 k2 HB ⊢
      have HB1 := Lib.hid (below_drew HB.out)
      have hHeld : W.drew.cell? ⟨w.heap.size, 0, none⟩ = some (.int .i64 (q : Int)) ∧ W.drew.cell? ⟨w.heap.size, 2, none⟩ = some (.slice A m c) := ⟨k0, k2⟩
      have HH := Lib.hid hHeld
      clear k0 k1 k2 hk hW
      refine wp_region_held (S := fun u => u.cell? ⟨w.heap.size, 0, none⟩ = some (.int .i64 (q : Int)) ∧ u.cell? ⟨w.heap.size, 2, none⟩ = some (.slice A m c)) (by kernel_rfl) ?_
      change wpAnyH _ _ _ _ _ _ _ _ (World.drew _)
      refine wpAnyH_take (i := 0) (oi := ({ dst := some 23, op := Op.fieldAddr 46 (Operand.tmp 1) 2, type := 0, pos := "ref.go:34", after := #[], guard := none } : Oper)) (v := .pointer (some ⟨w.heap.size, 2, none⟩)) rfl (by kernel_rfl) (by kernel_rfl) (by kernel_rfl) (fun _ _ _ h => h) (Or.inl ⟨by rfl, fun w hSw => by go_simp⟩) hHeld ?_
      simp only [Act.put, List.setIfInBounds_toArray, List.set_cons_zero, List.set_cons_succ]
      refine wpAnyH_take (i := 1) (oi := ({ dst := some 24, op := Op.load 28 (Operand.tmp 23), type := 28, pos := "ref.go:34", after := #[{ on := 0, ground := Ground.data }], guard := none } : Oper)) (v := .slice A m c) rfl (by kernel_rfl) (by kernel_rfl) (by kernel_rfl) (fun _ _ _ h => h) (Or.inl ⟨by rfl, fun w hSw => by obtain ⟨z0, z2⟩ := hSw; go_simp⟩) hHeld ?_
      simp only [Act.put, List.setIfInBounds_toArray, List.set_cons_zero, List.set_cons_succ]
      refine wpAnyH_take (i := 2) (oi := ({ dst := some 25, op := Op.call { callee := Callee.builtin Builtin.len, args := #[Operand.tmp 24], argTypes := #[28] }, type := 3, pos := "ref.go:34", after := #[{ on := 1, ground := Ground.data }], guard := none } : Oper)) (v := .int .i64 (m : Int)) rfl (by kernel_rfl) (by kernel_rfl) (by kernel_rfl) (fun _ _ _ h => h) (Or.inl ⟨by rfl, fun w hSw => by go_simp⟩) hHeld ?_
      simp only [Act.put, List.setIfInBounds_toArray, List.set_cons_zero, List.set_cons_succ]
      refine wpAnyH_take (i := 3) (oi := ({ dst := some 26, op := Op.fieldAddr 46 (Operand.tmp 1) 0, type := 0, pos := "ref.go:34", after := #[], guard := none } : Oper)) (v := .pointer (some ⟨w.heap.size, 0, none⟩)) rfl (by kernel_rfl) (by kernel_rfl) (by kernel_rfl) (fun _ _ _ h => h) (Or.inl ⟨by rfl, fun w hSw => by go_simp⟩) hHeld ?_
      simp only [Act.put, List.setIfInBounds_toArray, List.set_cons_zero, List.set_cons_succ]
      refine wpAnyH_take (i := 4) (oi := ({ dst := some 27, op := Op.load 3 (Operand.tmp 26), type := 3, pos := "ref.go:34", after := #[{ on := 3, ground := Ground.data }], guard := none } : Oper)) (v := .int .i64 (q : Int)) rfl (by kernel_rfl) (by kernel_rfl) (by kernel_rfl) (fun _ _ _ h => h) (Or.inl ⟨by rfl, fun w hSw => by obtain ⟨z0, z2⟩ := hSw; go_simp⟩) hHeld ?_
      simp only [Act.put, List.setIfInBounds_toArray, List.set_cons_zero, List.set_cons_succ]
      refine wpAnyH_ready (rs := [5]) (by kernel_rfl) (by simp) ?_
      refine AllReadyH.cons (o := ({ dst := some 28, op := Op.call { callee := Callee.value (Operand.func 54), args := #[Operand.tmp 27], argTypes := #[3] }, type := 3, pos := "ref.go:34", after := #[{ on := 4, ground := Ground.data }], guard := none } : Oper)) rfl (fun K hK => ?_) AllReadyH.nil
      go_simp
      (with_reducible refine (HD.out _).mono ?_)
      rintro e w3 ⟨rfl, ⟨nd, rfl⟩⟩
      have HB3 := Lib.hid (pw_below_drewN HB1.out nd)
      refine hK.out _ _ (HH.out) (fun hHeld => ?_)
      clear hK K
      try simp only [Act.put, List.setIfInBounds_toArray, List.set_cons_zero, List.set_cons_succ]
      refine wpAnyH_take (i := 6) (oi := ({ dst := some 29, op := Op.binOp BinOp.neq 3 (Operand.tmp 25) (Operand.tmp 28) 3, type := 4, pos := "ref.go:34", after := #[{ on := 2, ground := Ground.data }, { on := 5, ground := Ground.data }], guard := none } : Oper)) (v := .bool true) rfl (by kernel_rfl) (by kernel_rfl) (by kernel_rfl) (fun _ _ _ h => h) (Or.inl ⟨by rfl, fun w hSw => by go_simp⟩) hHeld ?_
      simp only [Act.put, List.setIfInBounds_toArray, List.set_cons_zero, List.set_cons_succ]
      refine wpAnyH_done (by kernel_rfl) ?_ _
      clear hHeld
      go_wp2_with fail
      go_ret
      exact ⟨rfl, HB3.out⟩
end Go.Proofs.YtlmcdkjobdcflaaDoor.Hand


/- A claim's texts, as the document has them (mastheadref10.Claim): walked. -/
namespace Go.Proofs.YtlmcdkjobdcflaaDoor.Hand
open Go Go.RowKit Go.Proofs.YtlmcdkjobdcflaaDoor.Plain Go.Proofs.YtlmcdkjobdcflaaDoor.PAll Go.Proofs.YtlmcdkjobdcflaaDoorW.PrintWords Go.Proofs.YtlmcdkjobdcflaaDoorW.PrintLast Go.Proofs.YtlmcdkjobdcflaaDoorW.PrintMore
set_option linter.unusedVariables false
set_option linter.unusedSimpArgs false
set_option maxRecDepth 100000
attribute [local go_sem ↓] Go.wp_at_zero Go.wp_at_succ
theorem run_load_h32 (w : World) (a : Addr) (v : Value) (h : w.cell? a = some v) : (loadVar 28 a).run Tryd.prog w = .ok v w := by
  go_simp
attribute [-go_sem] loadVar storeVar Instr.buildSlice
theorem row_lit1s {W : World} {base : Nat} (s : ByteArray) (hb : base ≤ W.heap.size) : Kd.R Kd.string 9 (W.alloc (.cells #[.string s] 9)) base (fun _ => True) (.slice (some ⟨W.heap.size, 0, none⟩) 1 1) [s] :=
  ⟨fun _ _ => trivial, OwnRow.lit W base (ps := [s]) (inner := [.string s]) (Reps.one rfl (Reps.none _ _)) hb (by simp)⟩
theorem stepT_okR {p : Nat} {a b : List Int} (ha : a.length = 32 ∧ ∀ x ∈ a, 0 ≤ x ∧ x < 256) (hb : b.length = 32 ∧ ∀ x ∈ b, 0 ≤ x ∧ x < 256) : okR (stepT p a b) := by
  refine ⟨(stepT_ok ha hb).1, ?_⟩
  unfold stepT
  split
  · rw [List.length_append, ha.1, hb.1]; decide
  · rw [List.length_append, ha.1, hb.1]; decide
set_option maxHeartbeats 8000000 in
theorem rclaim10_calls (text : List Int) (cnt idx : Int) (A : Option Addr) (m c : Nat) (xs : List (List Int)) (w : World) (htx : okR text) (hm : m = xs.length) (hr : Kd.C kH w A m xs) (hc : m ≤ c) (hm2 : m ≤ 1000) (hH : Hs xs)
    (h0 : -9223372036854775808 ≤ cnt) (h1 : cnt ≤ 9223372036854775807) :
    Calls Tryd.prog 47 #[.string (strOfNums text), bV cnt idx A m c] w fun e w' => ∃ v, e = .returned v ∧ Kd.R Kd.string 9 w' w.heap.size (fun _ => True) v ((claimP cnt idx xs text).map strOfNums) ∧ Below w.heap.size w w' := by
  have hk := heap_alloc_new w (.cells #[.int .i64 cnt, .int .i64 idx, .slice A m c] 46)
  have hb := below_alloc (Below.refl w.heap.size w) (.cells #[.int .i64 cnt, .int .i64 idx, .slice A m c] 46)
  obtain ⟨W0, hW0⟩ : ∃ W, w.alloc (.cells #[.int .i64 cnt, .int .i64 idx, .slice A m c] 46) = W := ⟨_, rfl⟩
  rw [hW0] at hk hb
  have HRI := Lib.hid (rright_calls cnt idx A m c W0 (Kd.C_max hr) h0 h1)
  have HK0 := Lib.hid hk
  have HB0 := Lib.hid hb
  have HW0 := Lib.hid hW0
  have HI9 := Lib.hid (And.intro Tryd.underlying46 (zero_of_info infoR9).2)
  have HM := Lib.hid hm
  have HR := Lib.hid hr
  have HHX := Lib.hid hH
  have HTX := Lib.hid htx
  obtain ⟨e0, he0⟩ : ∃ e, brightP cnt idx m = e := ⟨_, rfl⟩
  rw [he0] at HRI
  have HE0 := Lib.hid he0
  obtain ⟨cl, hcl⟩ : ∃ x, claimP cnt idx xs text = x := ⟨_, rfl⟩
  have HCP := Lib.hid (show cl = if e0 ≠ 0 then [] else text :: claimL xs idx.toNat (twiceP text) from by rw [← hcl]; unfold claimP; rw [← hm, he0])
  rw [hcl]
  unfold bV at HRI ⊢
  have HZ := (zero_of_info info32b).1
  obtain ⟨Z, hZ⟩ : ∃ C, (nums .u8 (List.replicate 32 0)).toArray = C := ⟨_, rfl⟩
  have hZs : Z.size = 32 := by rw [← hZ]; rfl
  rw [hZ] at HZ
  have HZS := Lib.hid hZs
  clear hk hb hW0 hm hr hH htx he0 hcl h0 h1 hZ hZs
  by_cases hz : e0 = 0
  · subst hz
    have hbad : 0 ≤ idx ∧ idx ≤ 65536 := by
      have h9 := HE0.out
      unfold brightP at h9
      by_cases hb9 : cnt < 1 ∨ 65536 < cnt ∨ idx < 0 ∨ cnt ≤ idx
      · rw [if_pos hb9] at h9
        cases h9
      · omega
    obtain ⟨i, rfl⟩ : ∃ i : Nat, idx = (i : Int) := ⟨idx.toNat, by omega⟩
    have hi6 : i ≤ 65536 := by omega
    have HC1 := Lib.hid (show cl = text :: claimL xs i (twiceP text) from by
      have h9 := HCP.out
      rw [if_neg (by simp)] at h9
      exact h9)
    have HS := Lib.hid (strOfNums_size text)
    obtain ⟨s, hs⟩ : ∃ s, strOfNums text = s := ⟨_, rfl⟩
    have HSS := Lib.hid hs
    rw [hs]
    clear hbad hs
    have hb1 := fun u => run_build1s s u
    go_enter Tryd.func47, Tryd.ntmps47
    go_wp2_with ((with_reducible show wpList _ _ _ (Oper.mk _ (Op.load _ (.tmp 3)) _ _ _ _ :: _) _ _); rw [HW0.out]; (go_loud (refine wpList_load_row rfl 46 (.tmp 3) rfl w.heap.size rfl 46 #[.int .i64 cnt, .int .i64 (i : Int), .slice A m c] (0, 0) _ HK0.out HI9.out.1 rfl HI9.out.2 ?_)))
    refine HRI.out.mono ?_
    rintro e w1 ⟨rfl, hb1'⟩
    have HB1 := Lib.hid (HB0.out.trans (Below.mono hb1' HB0.out.size))
    have hk1 := blk_alloc ((hb1'.block _ (blk_lt HK0.out)).trans HK0.out) (.cells #[.string s] 9)
    have l1 := run_load_i64 _ _ _ ((blk_cell hk1 1).trans rfl)
    have l2 := run_load_h32 _ _ _ ((blk_cell hk1 2).trans rfl)
    have HR2 := Lib.hid (row_lit1s (W := w1) (base := w.heap.size) s HB1.out.size)
    have HB2 := Lib.hid (below_alloc HB1.out (.cells #[.string s] 9))
    clear hk1 hb1'
    go_wp2_with fail
    obtain ⟨W2, hW2⟩ : ∃ W, w1.alloc (.cells #[.string s] 9) = W := ⟨_, rfl⟩
    rw [hW2] at HB2 HR2
    rw [hW2]
    clear hb1 l1 l2 hW2
    go_loopw [5, 6, 20] (fun v pv kv wr => ∃ (k p : Nat) (out : List (List Int)) (last : List Int), pv = .int .i64 (p : Int) ∧ kv = .int .i64 (k : Int) ∧ Hid (k ≤ m ∧ p ≤ 65536 ∧ okR last ∧ Kd.R Kd.string 9 wr w.heap.size (fun _ => True) v ((out ++ [last]).map strOfNums) ∧ out.length = k ∧ (out ++ [last]) ++ claimL (xs.drop k) p (twiceP last) = cl ∧ Below w.heap.size w wr)) (fun _ _ kv _ => m + 1 - (intOf kv).toNat)
    case atStart => exact ⟨0, i, [], text, rfl, rfl, Lib.hid ⟨Nat.zero_le _, hi6, HTX.out, by simpa [HSS.out] using HR2.out, rfl, by rw [HC1.out]; rfl, HB2.out⟩⟩
    case round =>
      clear HR2 HB2
      obtain ⟨k, p, out, last, rfl, rfl, H⟩ := hrel
      obtain ⟨hkm, hp6, hla, hRo, hol, hcl, hB⟩ := H.out
      by_cases hlt : k < m
      · have hxk : k < xs.length := by rw [← HM.out]; exact hlt
        obtain ⟨b, o, rfl, hbl, hrg⟩ := C_hash (w := w) (A := A) (xs := xs) (by rw [← HM.out]; exact HR.out) (by omega)
        obtain ⟨r0, s0⟩ := hrg k hxk
        have r1 := range_below hB hbl r0
        have hhh := HHX.out.at_ hxk
        have hst := claimL_cons hxk p (twiceP last)
        obtain ⟨hh, hhe⟩ : ∃ x, rdH xs k = x := ⟨_, rfl⟩
        rw [hhe] at r1 s0 hhh hst
        obtain ⟨l, hl⟩ : ∃ x, k + 1 = x := ⟨_, rfl⟩
        have hln : ((out ++ [last]).map strOfNums).length = l := by rw [List.length_map, List.length_append, hol]; exact hl
        obtain ⟨A5, c5, rfl⟩ := Kd.R_slice hRo
        rw [hln] at hRo ⊢
        obtain ⟨ad, rfl, hcell⟩ := C_str (Kd.R_reads' hRo).2.2 rfl (i := k) (by rw [hln]; omega)
        have hgk : ((out ++ [last]).map strOfNums)[k]'(by rw [hln]; omega) = strOfNums last := by
          rw [List.getElem_map, List.getElem_append_right (by omega)]
          simp [hol]
        rw [hgk] at hcell
        have HTW := Lib.hid (fun u : World => rtwice_calls last u hla.2 hla.1)
        obtain ⟨nd, hnd⟩ : ∃ x, twiceP last = x := ⟨_, rfl⟩
        have hndh : nd.length = 32 ∧ ∀ x ∈ nd, 0 ≤ x ∧ x < 256 := by rw [← hnd]; exact ⟨twiceP_len _, twiceP_bytes _⟩
        rw [hnd] at HTW hst hcl
        obtain ⟨ls, hls⟩ : ∃ x, strOfNums last = x := ⟨_, rfl⟩
        rw [hls] at HTW hcell
        have hld := run_load_st (wr.alloc (.cells (nums .u8 hh).toArray 24)) (ad.add k) _ (pw_cell_below (below_alloc (Below.refl wr.heap.size wr) _) hcell)
        have HIP := Lib.hid (show ∀ X : List Int, X.length = 32 → (Tryd.prog.info? 24).map (·.size) = some (nums .u8 X).length ∧ (Tryd.prog.info? 24).map (·.size) = some (nums .u8 X).toArray.size ∧ Z.size = (nums .u8 X).toArray.size ∧ (nums .u8 X).toArray.all (·.oneCell') = true from fun X h => ⟨by rw [nums_len, h]; exact (zero_of_info info32b).2, by rw [List.size_toArray, nums_len, h]; exact (zero_of_info info32b).2, by rw [HZS.out, List.size_toArray, nums_len, h], all_oneCell_toArray (nums_one _ _)⟩)
        have HIH := Lib.hid (HIP.out hh hhh.1)
        have HIN := Lib.hid (HIP.out nd hndh.1)
        have hu := Tryd.underlying24
        have HR1 := Lib.hid r1
        obtain ⟨g8, hg8⟩ : ∃ x, wr.heap.size = x := ⟨_, rfl⟩
        have k8 := heap_alloc_new wr (.cells (nums .u8 hh).toArray 24)
        obtain ⟨W5, hW5⟩ : ∃ W, wr.alloc (.cells (nums .u8 hh).toArray 24) = W := ⟨_, rfl⟩
        rw [hW5, hg8] at k8
        rw [hW5] at hld
        have HW5 := Lib.hid hW5
        have HK8 := Lib.hid k8
        have HR5 := Lib.hid (show Kd.R Kd.string 9 W5 w.heap.size (fun _ => True) (.slice (some ad) l c5) ((out ++ [last]).map strOfNums) from by rw [← hW5]; exact Kd.R_alloc hRo _)
        have HB5 := Lib.hid (show Below w.heap.size w W5 from by rw [← hW5]; exact below_alloc hB _)
        have HOW0 := Lib.hid (show ∀ kk, (Value.slice (some ad) l c5).ownBlock = some kk → kk < g8 from fun kk h => by rw [← hg8]; exact Kd.R_lt hRo kk h)
        have HPQ := Lib.hid (And.intro hhh hndh)
        have HNUM := Lib.hid (And.intro hkm (And.intro hp6 (And.intro hol (And.intro hl hlt))))
        have HCL := Lib.hid hcl
        have HST := Lib.hid hst
        have HTE := Lib.hid (And.intro hnd hls)
        have hwm : IntKind.i64.wrap ((l : Int) - 1) = (k : Int) := by rw [IntWalk.i64_in _ (by omega)]; omega
        have hwn : wrap64 ((l : Int) - 1) = (k : Int) := by rw [IntWalk.wrap64_in _ ⟨by omega, by omega⟩]; omega
        have gk : (k : Int) < (m : Int) := by omega
        have gk0 : (0 : Int) ≤ (k : Int) := by omega
        have gkl : (k : Int) < (l : Int) := by omega
        have HLT := Lib.hid (show (((out ++ [last]).map strOfNums).length + 1) * 16 ≤ 140737488355328 from by rw [hln]; omega)
        have HG8 := Lib.hid hg8
        clear H hkm hp6 hla hRo hol hcl hB hxk hbl hrg r0 r1 s0 hhh hst hhe hl hln hcell hgk hnd hndh hls hg8 k8 hW5 hlt
        go_wp2_with (first
          | ((with_reducible show wpList _ _ _ (Oper.mk _ (Op.load _ (.tmp 22)) _ _ _ _ :: _) _ _); (go_loud (refine wpList_load_mid rfl 24 (.tmp 22) rfl b (o + k * 32) rfl (nums .u8 hh) _ HR1.out hu rfl HIH.out.1 ?_)))
          | ((with_reducible show wpList _ _ _ (Oper.mk _ (Op.store _ (.tmp 8) _) _ _ _ _ :: _) _ _); (go_loud (refine wpl_store_new rfl 24 (.tmp 8) (.tmp 23) rfl Z (nums .u8 hh).toArray rfl rfl HIH.out.2.1 HIH.out.2.2.1 HIH.out.2.2.2 ?_); rw [HW5.out, HG8.out])))
        refine (HTW.out _).mono ?_
        rintro e w6 ⟨rfl, hb6⟩
        have HB6 := Lib.hid (HB5.out.trans (Below.mono hb6 HB5.out.size))
        have HR6 := Lib.hid (Kd.R_below HR5.out hb6)
        have k86 := (hb6.block _ (blk_lt HK8.out)).trans HK8.out
        have hgw := blk_lt k86
        obtain ⟨g9, hg9⟩ : ∃ x, w6.heap.size = x := ⟨_, rfl⟩
        have k9 := heap_alloc_new w6 (.cells (nums .u8 nd).toArray 24)
        have k87 := blk_alloc k86 (.cells (nums .u8 nd).toArray 24)
        obtain ⟨V, hV⟩ : ∃ W, w6.alloc (.cells (nums .u8 nd).toArray 24) = W := ⟨_, rfl⟩
        rw [hV] at k9 k87
        rw [hg9] at k9 hgw
        have HV := Lib.hid (And.intro hV hg9)
        have HV8 := Lib.hid k87
        have HV9 := Lib.hid k9
        have HVR := Lib.hid (show Kd.R Kd.string 9 V w.heap.size (fun _ => True) (.slice (some ad) l c5) ((out ++ [last]).map strOfNums) from by rw [← hV]; exact Kd.R_alloc HR6.out _)
        have HVB := Lib.hid (show Below w.heap.size w V from by rw [← hV]; exact below_alloc HB6.out _)
        have HOW := Lib.hid (show some g8 ≠ (Value.slice (some ad) l c5).ownBlock ∧ some g9 ≠ (Value.slice (some ad) l c5).ownBlock from ⟨fun e => by have := HOW0.out _ e.symm; omega, fun e => by have := HOW0.out _ e.symm; omega⟩)
        clear hb6 k86 hgw k9 k87 hV hg9 hld HR6 HR5
        by_cases ev : p % 2 = 0
        · have gp : ((p : Int) % 2 == 0) = true := by rw [beq_iff_eq]; omega
          have HSV := Lib.hid (show stepT p nd hh = nd ++ hh from by unfold stepT; rw [if_neg (by omega)])
          clear ev
          go_wp2_with ((with_reducible show wpList _ _ _ (Oper.mk _ (Op.store _ (.tmp 9) _) _ _ _ _ :: _) _ _); (go_loud (refine wpl_store_new rfl 24 (.tmp 9) (.tmp 30) rfl Z (nums .u8 nd).toArray rfl rfl HIN.out.2.1 HIN.out.2.2.1 HIN.out.2.2.2 ?_); rw [HV.out.1, HV.out.2]))
          obtain ⟨T1, hT1⟩ : ∃ T, strOfNums nd = T := ⟨_, rfl⟩
          obtain ⟨T2, hT2⟩ : ∃ T, strOfNums hh = T := ⟨_, rfl⟩
          obtain ⟨T3, hT3⟩ : ∃ T, strOfNums (nd ++ hh) = T := ⟨_, rfl⟩
          have hadd : T1 ++ T2 = T3 := by rw [← hT1, ← hT2, ← hT3]; exact (str_append nd hh).symm
          have hle : (9223372036854775807 < T1.size + T2.size) = False := eq_false (by rw [← hT1, ← hT2, strOfNums_size, strOfNums_size, HPQ.out.1.1, HPQ.out.2.1]; omega)
          have hmax : T1.size + T2.size ≤ 9223372036854775807 := by rw [← hT1, ← hT2, strOfNums_size, strOfNums_size, HPQ.out.1.1, HPQ.out.2.1]; omega
          have HTT := Lib.hid (And.intro hT1 (And.intro hT2 hT3))
          have HST2 := Lib.hid (show ∀ u : World, u.heap[g8]? = some (.cells (nums .u8 hh).toArray 24 (0, 0)) → u.heap[g9]? = some (.cells (nums .u8 nd).toArray 24 (0, 0)) → (convert 33 9 (.slice (some ⟨g9, 0, none⟩) 32 32)).run Tryd.prog u = .ok (.string T1) u ∧ (convert 33 9 (.slice (some ⟨g8, 0, none⟩) 32 32)).run Tryd.prog u = .ok (.string T2) u from fun u h1 h2 => by
            rw [← HTT.out.1, ← HTT.out.2.1]
            exact ⟨str32 (by first | exact HPQ.out.1.1 | exact HPQ.out.2.1) (by first | exact h1 | exact h2), str32 (by first | exact HPQ.out.1.1 | exact HPQ.out.2.1) (by first | exact h1 | exact h2)⟩)
          have hHeld := HST2.out V.drew HV8.out HV9.out
          have hs := fun W g => slice_all32 W g
          have hb1 := fun u => run_build1s T3 u
          clear hT1 hT2 hT3
          refine wp_region_held (S := fun u => (convert 33 9 (.slice (some ⟨g9, 0, none⟩) 32 32)).run Tryd.prog u = .ok (.string T1) u ∧ (convert 33 9 (.slice (some ⟨g8, 0, none⟩) 32 32)).run Tryd.prog u = .ok (.string T2) u) (by kernel_rfl) ?_
          change wpAnyH _ _ _ _ _ _ _ _ (World.drew _)
          refine wpAnyH_take (i := 0) (oi := ({ dst := some 34, op := Op.move (Operand.tmp 5), type := 68, pos := "ref.go:42", after := #[], guard := none } : Oper)) (v := .slice (some ad) l c5) rfl (by kernel_rfl) (by kernel_rfl) (by kernel_rfl) (fun _ _ _ h => h) (Or.inl ⟨by rfl, fun w hSw => by go_simp⟩) hHeld ?_
          simp only [Act.put, List.setIfInBounds_toArray, List.set_cons_zero, List.set_cons_succ]
          refine wpAnyH_take (i := 1) (oi := ({ dst := some 35, op := Op.slice 24 (Operand.tmp 9) none none none, type := 33, pos := "ref.go:42", after := #[], guard := none } : Oper)) (v := .slice (some ⟨g9, 0, none⟩) 32 32) rfl (by kernel_rfl) (by kernel_rfl) (by kernel_rfl) (fun _ _ _ h => h) (Or.inl ⟨by rfl, fun w hSw => by go_simp⟩) hHeld ?_
          simp only [Act.put, List.setIfInBounds_toArray, List.set_cons_zero, List.set_cons_succ]
          refine wpAnyH_take (i := 2) (oi := ({ dst := some 36, op := Op.convert 33 9 (Operand.tmp 35), type := 9, pos := "ref.go:42", after := #[{ on := 1, ground := Ground.data }], guard := none } : Oper)) (v := .string T1) rfl (by kernel_rfl) (by kernel_rfl) (by kernel_rfl) (fun _ _ _ h => h) (Or.inl ⟨by rfl, fun w hSw => by obtain ⟨z1, z2⟩ := hSw; go_simp⟩) hHeld ?_
          simp only [Act.put, List.setIfInBounds_toArray, List.set_cons_zero, List.set_cons_succ]
          refine wpAnyH_take (i := 3) (oi := ({ dst := some 37, op := Op.slice 24 (Operand.tmp 8) none none none, type := 33, pos := "ref.go:42", after := #[], guard := none } : Oper)) (v := .slice (some ⟨g8, 0, none⟩) 32 32) rfl (by kernel_rfl) (by kernel_rfl) (by kernel_rfl) (fun _ _ _ h => h) (Or.inl ⟨by rfl, fun w hSw => by go_simp⟩) hHeld ?_
          simp only [Act.put, List.setIfInBounds_toArray, List.set_cons_zero, List.set_cons_succ]
          refine wpAnyH_take (i := 4) (oi := ({ dst := some 38, op := Op.convert 33 9 (Operand.tmp 37), type := 9, pos := "ref.go:42", after := #[{ on := 3, ground := Ground.data }], guard := none } : Oper)) (v := .string T2) rfl (by kernel_rfl) (by kernel_rfl) (by kernel_rfl) (fun _ _ _ h => h) (Or.inl ⟨by rfl, fun w hSw => by obtain ⟨z1, z2⟩ := hSw; go_simp⟩) hHeld ?_
          simp only [Act.put, List.setIfInBounds_toArray, List.set_cons_zero, List.set_cons_succ]
          refine wpAnyH_take (i := 5) (oi := ({ dst := some 39, op := Op.binOp BinOp.add 9 (Operand.tmp 36) (Operand.tmp 38) 9, type := 9, pos := "ref.go:42", after := #[{ on := 2, ground := Ground.data }, { on := 4, ground := Ground.data }], guard := none } : Oper)) (v := .string T3) rfl (by kernel_rfl) (by kernel_rfl) (by kernel_rfl) (fun _ _ _ h => h) (Or.inl ⟨by rfl, fun w hSw => by go_simp⟩) hHeld ?_
          simp only [Act.put, List.setIfInBounds_toArray, List.set_cons_zero, List.set_cons_succ]
          have HVD := Lib.hid (Kd.R_below HVR.out (below_drew (Below.refl V.heap.size V)))
          have HVF := Lib.hid (HVB.out.trans (Below.mono (below_drew (Below.refl V.heap.size V)) HVB.out.size))
          refine wpAnyH_ready (rs := [6]) (by kernel_rfl) (by simp) ?_
          refine AllReadyH.cons (o := ({ dst := some 40, op := Op.buildSlice 68 1 #[(0, Operand.tmp 39)], type := 68, pos := "ref.go:42", after := #[{ on := 5, ground := Ground.data }], guard := none } : Oper)) rfl (fun K hK => ?_) AllReadyH.nil
          go_simp
          refine hK.out _ _ (HST2.out _ (blk_alloc HV8.out _) (blk_alloc HV9.out _)) (fun hHeld => ?_)
          clear hK K
          try simp only [Act.put, List.setIfInBounds_toArray, List.set_cons_zero, List.set_cons_succ]
          refine wpAnyH_ready (rs := [7]) (by kernel_rfl) (by simp) ?_
          refine AllReadyH.cons (o := ({ dst := some 41, op := Op.call { callee := Callee.builtin Builtin.append, args := #[Operand.tmp 34, Operand.tmp 40], argTypes := #[68, 68] }, type := 68, pos := "ref.go:42", after := #[{ on := 0, ground := Ground.data }, { on := 6, ground := Ground.data }], guard := none } : Oper)) rfl (fun K hK => ?_) AllReadyH.nil
          refine Kd.R_append_step Kd.string (W := V.drew) (w0 := w) w.heap.size (by rfl) (.tmp 34) (.tmp 40) 68 9 (.string ⟨#[]⟩) 16 (by rfl) Tryd.underlying68 infoS9 rfl (by decide) (by decide) (.slice (some ad) l c5) ((out ++ [last]).map strOfNums) T3 [.string T3] (fun _ => True) (fun _ => False) (by rfl) (by rfl) rfl (fun _ h => h.elim) (fun _ _ => trivial) HVD.out HVF.out HVF.out.size HLT.out ?_
          intro v9 w9 ho hb hg hat
          have HR9 := Lib.hid ho
          have HB9 := Lib.hid hb
          have HG9 := Lib.hid hg
          clear ho hb hg hat
          refine hK.out _ _ (HST2.out _ ((HG9.out.block g8 (blk_lt HV8.out) (HOW.out.1)).trans HV8.out) ((HG9.out.block g9 (blk_lt HV9.out) (HOW.out.2)).trans HV9.out)) (fun hHeld => ?_)
          clear hK K
          try simp only [Act.put, List.setIfInBounds_toArray, List.set_cons_zero, List.set_cons_succ]
          refine wpAnyH_take (i := 8) (oi := ({ dst := some 5, op := Op.assign (Operand.tmp 41), type := 68, pos := "ref.go:42", after := #[{ on := 7, ground := Ground.data }, { on := 7, ground := Ground.chain }, { on := 0, ground := Ground.phase }, { on := 1, ground := Ground.phase }, { on := 2, ground := Ground.phase }, { on := 3, ground := Ground.phase }, { on := 4, ground := Ground.phase }, { on := 5, ground := Ground.phase }, { on := 6, ground := Ground.phase }, { on := 7, ground := Ground.phase }], guard := none } : Oper)) (v := v9) rfl (by kernel_rfl) (by kernel_rfl) (by kernel_rfl) (fun _ _ _ h => h) (Or.inl ⟨by rfl, fun w hSw => by go_simp⟩) hHeld ?_
          simp only [Act.put, List.setIfInBounds_toArray, List.set_cons_zero, List.set_cons_succ]
          refine wpAnyH_done (by kernel_rfl) ?_ _
          clear hHeld hs hb1 hadd hle hmax
          go_wp2_with fail
          have hwk : wrap64 ((k : Int) + 1) = ((k + 1 : Nat) : Int) := by rw [IntWalk.wrap64_in _ ⟨by omega, by have h1 := HNUM.out; omega⟩]; omega
          have hwp : wrap64 ((p : Int) / 2) = ((p / 2 : Nat) : Int) := by rw [IntWalk.wrap64_in _ ⟨by omega, by have h1 := HNUM.out; omega⟩]; omega
          try rw [hwk]
          try rw [hwp]
          go_roundw
          case rel => exact ⟨k + 1, p / 2, out ++ [last], stepT p nd hh, (by first | rfl | (congr 1 <;> omega)), (by first | rfl | (congr 1 <;> omega)), Lib.hid ⟨HNUM.out.2.2.2.2, by have := HNUM.out; omega, stepT_okR HPQ.out.2 HPQ.out.1, (by
            rw [List.map_append]
            have h9 := HR9.out
            rw [← HTT.out.2.2, ← HSV.out] at h9
            exact h9), by rw [List.length_append, HNUM.out.2.2.1]; rfl, by
            rw [← HCL.out, HST.out, List.append_assoc]
            rfl, HB9.out⟩⟩
          case measure =>
            have h1 := HNUM.out
            simp only [intOf]
            omega
        · have gp : ((p : Int) % 2 == 0) = false := by rw [beq_eq_false_iff_ne]; omega
          have HSV := Lib.hid (show stepT p nd hh = hh ++ nd from by unfold stepT; rw [if_pos (by omega)])
          clear ev
          go_wp2_with ((with_reducible show wpList _ _ _ (Oper.mk _ (Op.store _ (.tmp 9) _) _ _ _ _ :: _) _ _); (go_loud (refine wpl_store_new rfl 24 (.tmp 9) (.tmp 30) rfl Z (nums .u8 nd).toArray rfl rfl HIN.out.2.1 HIN.out.2.2.1 HIN.out.2.2.2 ?_); rw [HV.out.1, HV.out.2]))
          obtain ⟨T1, hT1⟩ : ∃ T, strOfNums hh = T := ⟨_, rfl⟩
          obtain ⟨T2, hT2⟩ : ∃ T, strOfNums nd = T := ⟨_, rfl⟩
          obtain ⟨T3, hT3⟩ : ∃ T, strOfNums (hh ++ nd) = T := ⟨_, rfl⟩
          have hadd : T1 ++ T2 = T3 := by rw [← hT1, ← hT2, ← hT3]; exact (str_append hh nd).symm
          have hle : (9223372036854775807 < T1.size + T2.size) = False := eq_false (by rw [← hT1, ← hT2, strOfNums_size, strOfNums_size, HPQ.out.1.1, HPQ.out.2.1]; omega)
          have hmax : T1.size + T2.size ≤ 9223372036854775807 := by rw [← hT1, ← hT2, strOfNums_size, strOfNums_size, HPQ.out.1.1, HPQ.out.2.1]; omega
          have HTT := Lib.hid (And.intro hT1 (And.intro hT2 hT3))
          have HST2 := Lib.hid (show ∀ u : World, u.heap[g8]? = some (.cells (nums .u8 hh).toArray 24 (0, 0)) → u.heap[g9]? = some (.cells (nums .u8 nd).toArray 24 (0, 0)) → (convert 33 9 (.slice (some ⟨g8, 0, none⟩) 32 32)).run Tryd.prog u = .ok (.string T1) u ∧ (convert 33 9 (.slice (some ⟨g9, 0, none⟩) 32 32)).run Tryd.prog u = .ok (.string T2) u from fun u h1 h2 => by
            rw [← HTT.out.1, ← HTT.out.2.1]
            exact ⟨str32 (by first | exact HPQ.out.1.1 | exact HPQ.out.2.1) (by first | exact h1 | exact h2), str32 (by first | exact HPQ.out.1.1 | exact HPQ.out.2.1) (by first | exact h1 | exact h2)⟩)
          have hHeld := HST2.out V.drew HV8.out HV9.out
          have hs := fun W g => slice_all32 W g
          have hb1 := fun u => run_build1s T3 u
          clear hT1 hT2 hT3
          refine wp_region_held (S := fun u => (convert 33 9 (.slice (some ⟨g8, 0, none⟩) 32 32)).run Tryd.prog u = .ok (.string T1) u ∧ (convert 33 9 (.slice (some ⟨g9, 0, none⟩) 32 32)).run Tryd.prog u = .ok (.string T2) u) (by kernel_rfl) ?_
          change wpAnyH _ _ _ _ _ _ _ _ (World.drew _)
          refine wpAnyH_take (i := 0) (oi := ({ dst := some 42, op := Op.move (Operand.tmp 5), type := 68, pos := "ref.go:44", after := #[], guard := none } : Oper)) (v := .slice (some ad) l c5) rfl (by kernel_rfl) (by kernel_rfl) (by kernel_rfl) (fun _ _ _ h => h) (Or.inl ⟨by rfl, fun w hSw => by go_simp⟩) hHeld ?_
          simp only [Act.put, List.setIfInBounds_toArray, List.set_cons_zero, List.set_cons_succ]
          refine wpAnyH_take (i := 1) (oi := ({ dst := some 43, op := Op.slice 24 (Operand.tmp 8) none none none, type := 33, pos := "ref.go:44", after := #[], guard := none } : Oper)) (v := .slice (some ⟨g8, 0, none⟩) 32 32) rfl (by kernel_rfl) (by kernel_rfl) (by kernel_rfl) (fun _ _ _ h => h) (Or.inl ⟨by rfl, fun w hSw => by go_simp⟩) hHeld ?_
          simp only [Act.put, List.setIfInBounds_toArray, List.set_cons_zero, List.set_cons_succ]
          refine wpAnyH_take (i := 2) (oi := ({ dst := some 44, op := Op.convert 33 9 (Operand.tmp 43), type := 9, pos := "ref.go:44", after := #[{ on := 1, ground := Ground.data }], guard := none } : Oper)) (v := .string T1) rfl (by kernel_rfl) (by kernel_rfl) (by kernel_rfl) (fun _ _ _ h => h) (Or.inl ⟨by rfl, fun w hSw => by obtain ⟨z1, z2⟩ := hSw; go_simp⟩) hHeld ?_
          simp only [Act.put, List.setIfInBounds_toArray, List.set_cons_zero, List.set_cons_succ]
          refine wpAnyH_take (i := 3) (oi := ({ dst := some 45, op := Op.slice 24 (Operand.tmp 9) none none none, type := 33, pos := "ref.go:44", after := #[], guard := none } : Oper)) (v := .slice (some ⟨g9, 0, none⟩) 32 32) rfl (by kernel_rfl) (by kernel_rfl) (by kernel_rfl) (fun _ _ _ h => h) (Or.inl ⟨by rfl, fun w hSw => by go_simp⟩) hHeld ?_
          simp only [Act.put, List.setIfInBounds_toArray, List.set_cons_zero, List.set_cons_succ]
          refine wpAnyH_take (i := 4) (oi := ({ dst := some 46, op := Op.convert 33 9 (Operand.tmp 45), type := 9, pos := "ref.go:44", after := #[{ on := 3, ground := Ground.data }], guard := none } : Oper)) (v := .string T2) rfl (by kernel_rfl) (by kernel_rfl) (by kernel_rfl) (fun _ _ _ h => h) (Or.inl ⟨by rfl, fun w hSw => by obtain ⟨z1, z2⟩ := hSw; go_simp⟩) hHeld ?_
          simp only [Act.put, List.setIfInBounds_toArray, List.set_cons_zero, List.set_cons_succ]
          refine wpAnyH_take (i := 5) (oi := ({ dst := some 47, op := Op.binOp BinOp.add 9 (Operand.tmp 44) (Operand.tmp 46) 9, type := 9, pos := "ref.go:44", after := #[{ on := 2, ground := Ground.data }, { on := 4, ground := Ground.data }], guard := none } : Oper)) (v := .string T3) rfl (by kernel_rfl) (by kernel_rfl) (by kernel_rfl) (fun _ _ _ h => h) (Or.inl ⟨by rfl, fun w hSw => by go_simp⟩) hHeld ?_
          simp only [Act.put, List.setIfInBounds_toArray, List.set_cons_zero, List.set_cons_succ]
          have HVD := Lib.hid (Kd.R_below HVR.out (below_drew (Below.refl V.heap.size V)))
          have HVF := Lib.hid (HVB.out.trans (Below.mono (below_drew (Below.refl V.heap.size V)) HVB.out.size))
          refine wpAnyH_ready (rs := [6]) (by kernel_rfl) (by simp) ?_
          refine AllReadyH.cons (o := ({ dst := some 48, op := Op.buildSlice 68 1 #[(0, Operand.tmp 47)], type := 68, pos := "ref.go:44", after := #[{ on := 5, ground := Ground.data }], guard := none } : Oper)) rfl (fun K hK => ?_) AllReadyH.nil
          go_simp
          refine hK.out _ _ (HST2.out _ (blk_alloc HV8.out _) (blk_alloc HV9.out _)) (fun hHeld => ?_)
          clear hK K
          try simp only [Act.put, List.setIfInBounds_toArray, List.set_cons_zero, List.set_cons_succ]
          refine wpAnyH_ready (rs := [7]) (by kernel_rfl) (by simp) ?_
          refine AllReadyH.cons (o := ({ dst := some 49, op := Op.call { callee := Callee.builtin Builtin.append, args := #[Operand.tmp 42, Operand.tmp 48], argTypes := #[68, 68] }, type := 68, pos := "ref.go:44", after := #[{ on := 0, ground := Ground.data }, { on := 6, ground := Ground.data }], guard := none } : Oper)) rfl (fun K hK => ?_) AllReadyH.nil
          refine Kd.R_append_step Kd.string (W := V.drew) (w0 := w) w.heap.size (by rfl) (.tmp 42) (.tmp 48) 68 9 (.string ⟨#[]⟩) 16 (by rfl) Tryd.underlying68 infoS9 rfl (by decide) (by decide) (.slice (some ad) l c5) ((out ++ [last]).map strOfNums) T3 [.string T3] (fun _ => True) (fun _ => False) (by rfl) (by rfl) rfl (fun _ h => h.elim) (fun _ _ => trivial) HVD.out HVF.out HVF.out.size HLT.out ?_
          intro v9 w9 ho hb hg hat
          have HR9 := Lib.hid ho
          have HB9 := Lib.hid hb
          have HG9 := Lib.hid hg
          clear ho hb hg hat
          refine hK.out _ _ (HST2.out _ ((HG9.out.block g8 (blk_lt HV8.out) (HOW.out.1)).trans HV8.out) ((HG9.out.block g9 (blk_lt HV9.out) (HOW.out.2)).trans HV9.out)) (fun hHeld => ?_)
          clear hK K
          try simp only [Act.put, List.setIfInBounds_toArray, List.set_cons_zero, List.set_cons_succ]
          refine wpAnyH_take (i := 8) (oi := ({ dst := some 5, op := Op.assign (Operand.tmp 49), type := 68, pos := "ref.go:44", after := #[{ on := 7, ground := Ground.data }, { on := 7, ground := Ground.chain }, { on := 0, ground := Ground.phase }, { on := 1, ground := Ground.phase }, { on := 2, ground := Ground.phase }, { on := 3, ground := Ground.phase }, { on := 4, ground := Ground.phase }, { on := 5, ground := Ground.phase }, { on := 6, ground := Ground.phase }, { on := 7, ground := Ground.phase }], guard := none } : Oper)) (v := v9) rfl (by kernel_rfl) (by kernel_rfl) (by kernel_rfl) (fun _ _ _ h => h) (Or.inl ⟨by rfl, fun w hSw => by go_simp⟩) hHeld ?_
          simp only [Act.put, List.setIfInBounds_toArray, List.set_cons_zero, List.set_cons_succ]
          refine wpAnyH_done (by kernel_rfl) ?_ _
          clear hHeld hs hb1 hadd hle hmax
          go_wp2_with fail
          have hwk : wrap64 ((k : Int) + 1) = ((k + 1 : Nat) : Int) := by rw [IntWalk.wrap64_in _ ⟨by omega, by have h1 := HNUM.out; omega⟩]; omega
          have hwp : wrap64 ((p : Int) / 2) = ((p / 2 : Nat) : Int) := by rw [IntWalk.wrap64_in _ ⟨by omega, by have h1 := HNUM.out; omega⟩]; omega
          try rw [hwk]
          try rw [hwp]
          go_roundw
          case rel => exact ⟨k + 1, p / 2, out ++ [last], stepT p nd hh, (by first | rfl | (congr 1 <;> omega)), (by first | rfl | (congr 1 <;> omega)), Lib.hid ⟨HNUM.out.2.2.2.2, by have := HNUM.out; omega, stepT_okR HPQ.out.2 HPQ.out.1, (by
            rw [List.map_append]
            have h9 := HR9.out
            rw [← HTT.out.2.2, ← HSV.out] at h9
            exact h9), by rw [List.length_append, HNUM.out.2.2.1]; rfl, by
            rw [← HCL.out, HST.out, List.append_assoc]
            rfl, HB9.out⟩⟩
          case measure =>
            have h1 := HNUM.out
            simp only [intOf]
            omega
      · have gk : ¬ (k : Int) < (m : Int) := by omega
        have hce : out ++ [last] = cl := by
          rw [← hcl, claimL_nil (by rw [← HM.out]; omega), List.append_nil]
        rw [hce] at hRo
        have HRR := Lib.hid hRo
        have HBB := Lib.hid hB
        clear H hkm hp6 hla hRo hol hcl hB hce
        go_wp2_with fail
        go_ret
        exact ⟨_, rfl, HRR.out, HBB.out⟩
  · have g1 : (e0 == 0) = false := by rw [beq_eq_false_iff_ne]; exact hz
    have g2 : (e0 != 0) = true := by rw [bne, g1]; rfl
    have hcn : cl = [] := by rw [HCP.out, if_pos hz]
    subst hcn
    clear hz
    go_enter Tryd.func47, Tryd.ntmps47
    go_wp2_with ((with_reducible show wpList _ _ _ (Oper.mk _ (Op.load _ (.tmp 3)) _ _ _ _ :: _) _ _); rw [HW0.out]; (go_loud (refine wpList_load_row rfl 46 (.tmp 3) rfl w.heap.size rfl 46 #[.int .i64 cnt, .int .i64 idx, .slice A m c] (0, 0) _ HK0.out HI9.out.1 rfl HI9.out.2 ?_)))
    refine HRI.out.mono ?_
    rintro e w1 ⟨rfl, hb1'⟩
    have HB1 := Lib.hid (HB0.out.trans (Below.mono hb1' HB0.out.size))
    clear hb1'
    go_wp2_with fail
    go_ret
    exact ⟨_, rfl, Kd.R_nil _ _ _ _ _, HB1.out⟩
end Go.Proofs.YtlmcdkjobdcflaaDoor.Hand

