/- Several texts in one. -/
import Derived.Test.YtfcmdhimlfoofaaProg
import Derived.Below
import Derived.Deep.Draws
import Derived.Deep.AppendLies
import Derived.Maps.AppendAt
import Derived.OwnWalk
import Derived.Laws.BytesArg
import Derived.Laws.MakeOwn
import Derived.Laws.OwnMore
import Derived.Deep.OwnRows
import Derived.Tactics
import Derived.Lib.ConvBytes
import Derived.Laws.Slices
import Derived.WalkKit
import Derived.KernelRfl
import Derived.RowKit3
import Derived.Deep.LoopGhost
import Derived.Deep.QuietTactic
import Derived.BigQuiet
import Derived.WideLaws
import Derived.Deep.DeepCutAuto
import Derived.Deep.CutBlock
import Derived.Deep.RegionHeld3
import Derived.Laws.Rows
import Derived.Lib.AppendStr
import Derived.ArgAppend
import Derived.Laws.IdiomCopy
import Derived.OrdersHeld
import Derived.Laws.BitsLemmas
import Derived.RowKit
import Derived.StillTailTactics
import Derived.Test.YtfcmdhimlfoofaaWWords
import Derived.Test.YtfcmdhimlfoofaaWLast
import Derived.Test.YtfcmdhimlfoofaaWMore
import Derived.Lib.Hide
import Derived.Test.YtfcmdhimlfoofaaName16
import Derived.Outline
import Derived.Deep.MidRow
import Derived.Deep.WholeRow
import Derived.Deep.DrawnRows
import Derived.Deep.RegionLaw
import Derived.Test.YtfcmdhimlfoofaaPut16
import Derived.Test.YtfcmdhimlfoofaaParse
import Derived.LaidEql
/- Just nine kinds have names, no two the same: the plain law. -/
namespace Go.Proofs.Ytfcmdhimlfoofaa.Hand
open Go Go.RowKit Go.Proofs.Ytfcmdhimlfoofaa.Plain Go.Proofs.YtfcmdhimlfoofaaW.PrintWords Go.Proofs.YtfcmdhimlfoofaaW.PrintLast Go.Proofs.YtfcmdhimlfoofaaW.PrintMore
set_option linter.unusedVariables false
set_option linter.unusedSimpArgs false
theorem name_some {k : Int} (h1 : 1 ≤ k) (h9 : k ≤ 9) : nameM k ≠ ⟨#[]⟩ := by
  rcases kinds h1 h9 with rfl | rfl | rfl | rfl | rfl | rfl | rfl | rfl | rfl <;> decide
theorem name_iff (k : Int) : nameM k = ⟨#[]⟩ ↔ k < 1 ∨ 9 < k := by
  constructor
  · intro h
    by_cases hk : k < 1 ∨ 9 < k
    · exact hk
    · exact absurd h (name_some (by omega) (by omega))
  · exact name_none
theorem name_inj {a b : Int} (h : nameM a = nameM b) (ha : nameM a ≠ ⟨#[]⟩) : a = b := by
  have h1 : ¬ (a < 1 ∨ 9 < a) := fun e => ha ((name_iff a).2 e)
  have h2 : ¬ (b < 1 ∨ 9 < b) := fun e => ha (h.trans ((name_iff b).2 e))
  rcases kinds (k := a) (by omega) (by omega) with rfl | rfl | rfl | rfl | rfl | rfl | rfl | rfl | rfl <;>
    rcases kinds (k := b) (by omega) (by omega) with rfl | rfl | rfl | rfl | rfl | rfl | rfl | rfl | rfl <;>
    first | rfl | exact absurd h (by decide)
end Go.Proofs.Ytfcmdhimlfoofaa.Hand


/- The fields of a kind, as the document has them: walked (mastheadref16.Uses). -/
namespace Go.Proofs.Ytfcmdhimlfoofaa.Hand
open Go Go.RowKit Go.Proofs.Ytfcmdhimlfoofaa.Plain Go.Proofs.Ytfcmdhimlfoofaa.PAll Go.Proofs.YtfcmdhimlfoofaaW.PrintWords Go.Proofs.YtfcmdhimlfoofaaW.PrintLast Go.Proofs.YtfcmdhimlfoofaaW.PrintMore
set_option linter.unusedVariables false
set_option linter.unusedSimpArgs false
set_option maxRecDepth 100000
attribute [local go_sem ↓] Go.wp_at_zero Go.wp_at_succ
def rusesM (k : Int) : ByteArray := if k = 1 then ⟨#[108, 115, 110]⟩ else if k = 2 then ⟨#[104, 110]⟩ else if k = 3 then ⟨#[98]⟩ else if k = 4 then ⟨#[98, 100]⟩ else if k = 5 then ⟨#[98, 105]⟩ else if k = 6 then ⟨#[98, 105, 101]⟩ else if k = 7 then ⟨#[110]⟩ else if k = 8 then ⟨#[110]⟩ else if k = 9 then ⟨#[111, 98, 105, 110, 99]⟩ else ⟨#[]⟩
theorem ruses_none {k : Int} (h : k < 1 ∨ 9 < k) : rusesM k = ⟨#[]⟩ := by
  unfold rusesM
  repeat rw [if_neg (by omega)]
theorem built_ruses : Try.prog.built 57 [(0, .string ⟨#[]⟩), (1, .string ⟨#[108, 115, 110]⟩), (2, .string ⟨#[104, 110]⟩), (3, .string ⟨#[98]⟩), (4, .string ⟨#[98, 100]⟩), (5, .string ⟨#[98, 105]⟩), (6, .string ⟨#[98, 105, 101]⟩), (7, .string ⟨#[110]⟩), (8, .string ⟨#[110]⟩), (9, .string ⟨#[111, 98, 105, 110, 99]⟩)] = some #[.string ⟨#[]⟩, .string ⟨#[108, 115, 110]⟩, .string ⟨#[104, 110]⟩, .string ⟨#[98]⟩, .string ⟨#[98, 100]⟩, .string ⟨#[98, 105]⟩, .string ⟨#[98, 105, 101]⟩, .string ⟨#[110]⟩, .string ⟨#[110]⟩, .string ⟨#[111, 98, 105, 110, 99]⟩] := by kernel_rfl
theorem infoRuses : (Try.prog.info? 57).map (fun i => (i.zero, i.size)) = some (some (.agg #[.string ⟨#[]⟩, .string ⟨#[]⟩, .string ⟨#[]⟩, .string ⟨#[]⟩, .string ⟨#[]⟩, .string ⟨#[]⟩, .string ⟨#[]⟩, .string ⟨#[]⟩, .string ⟨#[]⟩, .string ⟨#[]⟩]), 10) := by kernel_rfl
set_option maxHeartbeats 4000000 in
theorem ruses_calls (k : Int) (w : World) : Calls Try.prog 9 #[.int .i64 k] w fun e w' => e = .returned (.string (rusesM k)) ∧ Below w.heap.size w w' := by
  have hz := (zero_of_info infoRuses).1
  have hi := (zero_of_info infoRuses).2
  have hk := heap_alloc_new w (.cells #[.string ⟨#[]⟩, .string ⟨#[108, 115, 110]⟩, .string ⟨#[104, 110]⟩, .string ⟨#[98]⟩, .string ⟨#[98, 100]⟩, .string ⟨#[98, 105]⟩, .string ⟨#[98, 105, 101]⟩, .string ⟨#[110]⟩, .string ⟨#[110]⟩, .string ⟨#[111, 98, 105, 110, 99]⟩] 57)
  have HB := Lib.hid (below_alloc (Below.refl w.heap.size w) (.cells #[.string ⟨#[]⟩, .string ⟨#[108, 115, 110]⟩, .string ⟨#[104, 110]⟩, .string ⟨#[98]⟩, .string ⟨#[98, 100]⟩, .string ⟨#[98, 105]⟩, .string ⟨#[98, 105, 101]⟩, .string ⟨#[110]⟩, .string ⟨#[110]⟩, .string ⟨#[111, 98, 105, 110, 99]⟩] 57))
  by_cases h1 : k < 1
  · rw [ruses_none (Or.inl h1)]
    go_enter Try.func9, Try.ntmps9
    go_wp2_with (first
      | ((with_reducible show wpList _ _ _ (Oper.mk _ (Op.build _ _) _ _ _ _ :: _) _ _); (go_loud (refine wpl_build rfl 57 _ rfl #[(0, .string ⟨#[]⟩), (1, .string ⟨#[108, 115, 110]⟩), (2, .string ⟨#[104, 110]⟩), (3, .string ⟨#[98]⟩), (4, .string ⟨#[98, 100]⟩), (5, .string ⟨#[98, 105]⟩), (6, .string ⟨#[98, 105, 101]⟩), (7, .string ⟨#[110]⟩), (8, .string ⟨#[110]⟩), (9, .string ⟨#[111, 98, 105, 110, 99]⟩)] (by simp [Act.eval]) #[.string ⟨#[]⟩, .string ⟨#[108, 115, 110]⟩, .string ⟨#[104, 110]⟩, .string ⟨#[98]⟩, .string ⟨#[98, 100]⟩, .string ⟨#[98, 105]⟩, .string ⟨#[98, 105, 101]⟩, .string ⟨#[110]⟩, .string ⟨#[110]⟩, .string ⟨#[111, 98, 105, 110, 99]⟩] built_ruses ?_)))
      | ((with_reducible show wpList _ _ _ (Oper.mk _ (Op.store _ (.tmp 3) _) _ _ _ _ :: _) _ _); (go_loud (refine wpl_store_new rfl 57 (.tmp 3) (.tmp 4) rfl #[.string ⟨#[]⟩, .string ⟨#[]⟩, .string ⟨#[]⟩, .string ⟨#[]⟩, .string ⟨#[]⟩, .string ⟨#[]⟩, .string ⟨#[]⟩, .string ⟨#[]⟩, .string ⟨#[]⟩, .string ⟨#[]⟩] #[.string ⟨#[]⟩, .string ⟨#[108, 115, 110]⟩, .string ⟨#[104, 110]⟩, .string ⟨#[98]⟩, .string ⟨#[98, 100]⟩, .string ⟨#[98, 105]⟩, .string ⟨#[98, 105, 101]⟩, .string ⟨#[110]⟩, .string ⟨#[110]⟩, .string ⟨#[111, 98, 105, 110, 99]⟩] rfl rfl hi rfl (by simp [Value.oneCell']) ?_))))
    go_ret
    exact ⟨rfl, HB.out⟩
  by_cases h9 : 9 < k
  · rw [ruses_none (Or.inr h9)]
    go_enter Try.func9, Try.ntmps9
    go_wp2_with (first
      | ((with_reducible show wpList _ _ _ (Oper.mk _ (Op.build _ _) _ _ _ _ :: _) _ _); (go_loud (refine wpl_build rfl 57 _ rfl #[(0, .string ⟨#[]⟩), (1, .string ⟨#[108, 115, 110]⟩), (2, .string ⟨#[104, 110]⟩), (3, .string ⟨#[98]⟩), (4, .string ⟨#[98, 100]⟩), (5, .string ⟨#[98, 105]⟩), (6, .string ⟨#[98, 105, 101]⟩), (7, .string ⟨#[110]⟩), (8, .string ⟨#[110]⟩), (9, .string ⟨#[111, 98, 105, 110, 99]⟩)] (by simp [Act.eval]) #[.string ⟨#[]⟩, .string ⟨#[108, 115, 110]⟩, .string ⟨#[104, 110]⟩, .string ⟨#[98]⟩, .string ⟨#[98, 100]⟩, .string ⟨#[98, 105]⟩, .string ⟨#[98, 105, 101]⟩, .string ⟨#[110]⟩, .string ⟨#[110]⟩, .string ⟨#[111, 98, 105, 110, 99]⟩] built_ruses ?_)))
      | ((with_reducible show wpList _ _ _ (Oper.mk _ (Op.store _ (.tmp 3) _) _ _ _ _ :: _) _ _); (go_loud (refine wpl_store_new rfl 57 (.tmp 3) (.tmp 4) rfl #[.string ⟨#[]⟩, .string ⟨#[]⟩, .string ⟨#[]⟩, .string ⟨#[]⟩, .string ⟨#[]⟩, .string ⟨#[]⟩, .string ⟨#[]⟩, .string ⟨#[]⟩, .string ⟨#[]⟩, .string ⟨#[]⟩] #[.string ⟨#[]⟩, .string ⟨#[108, 115, 110]⟩, .string ⟨#[104, 110]⟩, .string ⟨#[98]⟩, .string ⟨#[98, 100]⟩, .string ⟨#[98, 105]⟩, .string ⟨#[98, 105, 101]⟩, .string ⟨#[110]⟩, .string ⟨#[110]⟩, .string ⟨#[111, 98, 105, 110, 99]⟩] rfl rfl hi rfl (by simp [Value.oneCell']) ?_))))
    go_ret
    exact ⟨rfl, HB.out⟩
  rcases kinds (k := k) (by omega) (by omega) with rfl | rfl | rfl | rfl | rfl | rfl | rfl | rfl | rfl
  all_goals
    clear h1 h9
    have c1 := (blk_cell hk 1).trans (show _ = some (Value.string ⟨#[108, 115, 110]⟩) from rfl)
    have c2 := (blk_cell hk 2).trans (show _ = some (Value.string ⟨#[104, 110]⟩) from rfl)
    have c3 := (blk_cell hk 3).trans (show _ = some (Value.string ⟨#[98]⟩) from rfl)
    have c4 := (blk_cell hk 4).trans (show _ = some (Value.string ⟨#[98, 100]⟩) from rfl)
    have c5 := (blk_cell hk 5).trans (show _ = some (Value.string ⟨#[98, 105]⟩) from rfl)
    have c6 := (blk_cell hk 6).trans (show _ = some (Value.string ⟨#[98, 105, 101]⟩) from rfl)
    have c7 := (blk_cell hk 7).trans (show _ = some (Value.string ⟨#[110]⟩) from rfl)
    have c8 := (blk_cell hk 8).trans (show _ = some (Value.string ⟨#[110]⟩) from rfl)
    have c9 := (blk_cell hk 9).trans (show _ = some (Value.string ⟨#[111, 98, 105, 110, 99]⟩) from rfl)
    go_enter Try.func9, Try.ntmps9
    go_wp2_with (first
      | ((with_reducible show wpList _ _ _ (Oper.mk _ (Op.build _ _) _ _ _ _ :: _) _ _); (go_loud (refine wpl_build rfl 57 _ rfl #[(0, .string ⟨#[]⟩), (1, .string ⟨#[108, 115, 110]⟩), (2, .string ⟨#[104, 110]⟩), (3, .string ⟨#[98]⟩), (4, .string ⟨#[98, 100]⟩), (5, .string ⟨#[98, 105]⟩), (6, .string ⟨#[98, 105, 101]⟩), (7, .string ⟨#[110]⟩), (8, .string ⟨#[110]⟩), (9, .string ⟨#[111, 98, 105, 110, 99]⟩)] (by simp [Act.eval]) #[.string ⟨#[]⟩, .string ⟨#[108, 115, 110]⟩, .string ⟨#[104, 110]⟩, .string ⟨#[98]⟩, .string ⟨#[98, 100]⟩, .string ⟨#[98, 105]⟩, .string ⟨#[98, 105, 101]⟩, .string ⟨#[110]⟩, .string ⟨#[110]⟩, .string ⟨#[111, 98, 105, 110, 99]⟩] built_ruses ?_)))
      | ((with_reducible show wpList _ _ _ (Oper.mk _ (Op.store _ (.tmp 3) _) _ _ _ _ :: _) _ _); (go_loud (refine wpl_store_new rfl 57 (.tmp 3) (.tmp 4) rfl #[.string ⟨#[]⟩, .string ⟨#[]⟩, .string ⟨#[]⟩, .string ⟨#[]⟩, .string ⟨#[]⟩, .string ⟨#[]⟩, .string ⟨#[]⟩, .string ⟨#[]⟩, .string ⟨#[]⟩, .string ⟨#[]⟩] #[.string ⟨#[]⟩, .string ⟨#[108, 115, 110]⟩, .string ⟨#[104, 110]⟩, .string ⟨#[98]⟩, .string ⟨#[98, 100]⟩, .string ⟨#[98, 105]⟩, .string ⟨#[98, 105, 101]⟩, .string ⟨#[110]⟩, .string ⟨#[110]⟩, .string ⟨#[111, 98, 105, 110, 99]⟩] rfl rfl hi rfl (by simp [Value.oneCell']) ?_))))
    go_ret
    exact ⟨rfl, HB.out⟩
end Go.Proofs.Ytfcmdhimlfoofaa.Hand


/- A field is put: walked (Msg.put), field by field. -/
namespace Go.Proofs.Ytfcmdhimlfoofaa.Hand
open Go Go.RowKit Go.Proofs.Ytfcmdhimlfoofaa.Plain Go.Proofs.Ytfcmdhimlfoofaa.PAll Go.Proofs.YtfcmdhimlfoofaaW.PrintWords Go.Proofs.YtfcmdhimlfoofaaW.PrintLast Go.Proofs.YtfcmdhimlfoofaaW.PrintMore
set_option linter.unusedVariables false
set_option linter.unusedSimpArgs false
set_option maxRecDepth 100000
attribute [local go_sem ↓] Go.wp_at_zero Go.wp_at_succ
set_option maxHeartbeats 4000000 in
theorem put_loc {w : World} {B g bx : Nat} {bs : List Int} {a : MA} {m : MT} (h : IsC w B g bs) (hbx : bx < B) (hbox : MBox w bx a m) (hr : ∀ W : World, Below B w W → MC W a m) (hwf : MWf m) (hfit : fitM m 0 = true) (hl : bs.length ≤ 500000) :
    Calls Try.prog 22 #[.pointer (some ⟨bx, 0, none⟩), .pointer (some ⟨g, 0, none⟩), .int .i64 0] w fun e w' => e = .returned (.tuple #[]) ∧ IsC w' B g (bs ++ putB m 0) ∧ Below B w w' ∧ CKeep w w' g := by
  obtain ⟨c0, c1, c34, c67, c68, c69, c70, c71, c72⟩ := hbox.cells
  have HBOX := Lib.hid hbox
  have HW := Lib.hid h
  have HR := Lib.hid hr
  have HWF := Lib.hid hwf
  have HL := Lib.hid hl
  have HBX := Lib.hid hbx
  have hfit' : m.loc.length ≤ 64 := by exact of_decide_eq_true hfit
  have HFIT := Lib.hid hfit'
  obtain ⟨n, hn⟩ : ∃ n, m.loc.length = n := ⟨_, rfl⟩
  have HN := Lib.hid hn
  have HRL := Lib.hid (show ∀ W : World, Below B w W → Kd.C kH W a.la n m.loc from fun W hb => by rw [← hn]; exact (hr W hb).loc)
  have HLC := Lib.hid (show n ≤ a.lc by rw [← hn]; exact (hr w (Below.refl _ _)).lc)
  rw [hn] at c1
  have e : putB m 0 = hashesB m.loc := rfl
  rw [e]
  clear h hbx hbox hr hwf hfit hl hfit' hn e
  go_enter Try.func22, Try.ntmps22
  go_wp2_with fail
  refine (hashes_calls a.la n a.lc m.loc HW.out HN.out.symm HRL.out (fun p hp => (HWF.out.loc p hp).1) HLC.out (by have := HL.out; have := HFIT.out; have := HN.out; omega)).mono ?_
  rintro e w1 ⟨rfl, hw, hb, hk⟩
  have HW1 := Lib.hid hw
  have HB1 := Lib.hid hb
  have HK1 := Lib.hid hk
  clear hw hb hk
  go_wp2
  go_end0
  exact ⟨rfl, HW1.out, HB1.out, HK1.out⟩
set_option maxHeartbeats 4000000 in
theorem put_stop {w : World} {B g bx : Nat} {bs : List Int} {a : MA} {m : MT} (h : IsC w B g bs) (hbx : bx < B) (hbox : MBox w bx a m) (hr : ∀ W : World, Below B w W → MC W a m) (hwf : MWf m) (hfit : fitM m 1 = true) (hl : bs.length ≤ 500000) :
    Calls Try.prog 22 #[.pointer (some ⟨bx, 0, none⟩), .pointer (some ⟨g, 0, none⟩), .int .i64 1] w fun e w' => e = .returned (.tuple #[]) ∧ IsC w' B g (bs ++ putB m 1) ∧ Below B w w' ∧ CKeep w w' g := by
  obtain ⟨c0, c1, c34, c67, c68, c69, c70, c71, c72⟩ := hbox.cells
  have HBOX := Lib.hid hbox
  have HW := Lib.hid h
  have HR := Lib.hid hr
  have HWF := Lib.hid hwf
  have HL := Lib.hid hl
  have HBX := Lib.hid hbx
  have hfit' : True := by trivial
  have HFIT := Lib.hid hfit'
  have HS := Lib.hid (show m.stop.length = 32 from hwf.stop.1)
  have HWA := Lib.hid (h.alloc (.cells #[.slice (some ⟨bx, 2, none⟩) 32 32] 23))
  have HBA := Lib.hid (show Below B w (w.alloc (.cells #[.slice (some ⟨bx, 2, none⟩) 32 32] 23)) from (Below.refl _ _).alloc (by have := h.1; have := h.lt; omega) _)
  have HNEW := Lib.hid (show (w.alloc (.cells #[.slice (some ⟨bx, 2, none⟩) 32 32] 23)).heap[w.heap.size]? = some (.cells #[.slice (some ⟨bx, 2, none⟩) 32 32] 23 (0, 0)) by simpa using heap_alloc_new w _)
  have HGL := Lib.hid h.lt
  have HROW := Lib.hid (show ∀ W : World, Below B w W → Kd.C (Kd.int .u8) W (some ⟨bx, 2, none⟩) 32 m.stop from fun W hb => by
    have h2 : MBox W bx a m := ⟨(hb.block bx hbx).trans hbox.blk, hbox.s32, hbox.b32⟩
    exact h2.stopC)
  have HKA := Lib.hid ((CKeep.refl w g).below h.lt (below_alloc (Below.refl _ _) (.cells #[.slice (some ⟨bx, 2, none⟩) 32 32] 23)))
  have e : putB m 1 = m.stop := rfl
  rw [e]
  clear h hbx hbox hr hwf hfit hl hfit' e
  go_enter Try.func22, Try.ntmps22
  go_wp2_with fail
  refine (cput_calls (some ⟨w.heap.size, 0, none⟩) 1 [m.stop] HWA.out (fun W' hb' hk' => ?_) (by simp) (by have := HL.out; simp [HS.out]; omega)).mono ?_
  · exact row_one (HROW.out W' (HBA.out.trans hb')) HS.out (hk'.blk (by have := HGL.out; omega) (HWA.out.row HNEW.out (by decide)) HNEW.out)
  rintro e w1 ⟨rfl, hw, hb, hk⟩
  have HW1 := Lib.hid (show IsC w1 B g (bs ++ m.stop) by simpa using hw)
  have HB1 := Lib.hid (HBA.out.trans hb)
  have HK1 := Lib.hid (HKA.out.trans hk)
  clear hw hb hk
  go_wp2
  go_end0
  exact ⟨rfl, HW1.out, HB1.out, HK1.out⟩
set_option maxHeartbeats 4000000 in
theorem put_block {w : World} {B g bx : Nat} {bs : List Int} {a : MA} {m : MT} (h : IsC w B g bs) (hbx : bx < B) (hbox : MBox w bx a m) (hr : ∀ W : World, Below B w W → MC W a m) (hwf : MWf m) (hfit : fitM m 4 = true) (hl : bs.length ≤ 500000) :
    Calls Try.prog 22 #[.pointer (some ⟨bx, 0, none⟩), .pointer (some ⟨g, 0, none⟩), .int .i64 4] w fun e w' => e = .returned (.tuple #[]) ∧ IsC w' B g (bs ++ putB m 4) ∧ Below B w w' ∧ CKeep w w' g := by
  obtain ⟨c0, c1, c34, c67, c68, c69, c70, c71, c72⟩ := hbox.cells
  have HBOX := Lib.hid hbox
  have HW := Lib.hid h
  have HR := Lib.hid hr
  have HWF := Lib.hid hwf
  have HL := Lib.hid hl
  have HBX := Lib.hid hbx
  have hfit' : True := by trivial
  have HFIT := Lib.hid hfit'
  have HS := Lib.hid (show m.block.length = 32 from hwf.block.1)
  have HWA := Lib.hid (h.alloc (.cells #[.slice (some ⟨bx, 35, none⟩) 32 32] 23))
  have HBA := Lib.hid (show Below B w (w.alloc (.cells #[.slice (some ⟨bx, 35, none⟩) 32 32] 23)) from (Below.refl _ _).alloc (by have := h.1; have := h.lt; omega) _)
  have HNEW := Lib.hid (show (w.alloc (.cells #[.slice (some ⟨bx, 35, none⟩) 32 32] 23)).heap[w.heap.size]? = some (.cells #[.slice (some ⟨bx, 35, none⟩) 32 32] 23 (0, 0)) by simpa using heap_alloc_new w _)
  have HGL := Lib.hid h.lt
  have HROW := Lib.hid (show ∀ W : World, Below B w W → Kd.C (Kd.int .u8) W (some ⟨bx, 35, none⟩) 32 m.block from fun W hb => by
    have h2 : MBox W bx a m := ⟨(hb.block bx hbx).trans hbox.blk, hbox.s32, hbox.b32⟩
    exact h2.blockC)
  have HKA := Lib.hid ((CKeep.refl w g).below h.lt (below_alloc (Below.refl _ _) (.cells #[.slice (some ⟨bx, 35, none⟩) 32 32] 23)))
  have e : putB m 4 = m.block := rfl
  rw [e]
  clear h hbx hbox hr hwf hfit hl hfit' e
  go_enter Try.func22, Try.ntmps22
  go_wp2_with fail
  refine (cput_calls (some ⟨w.heap.size, 0, none⟩) 1 [m.block] HWA.out (fun W' hb' hk' => ?_) (by simp) (by have := HL.out; simp [HS.out]; omega)).mono ?_
  · exact row_one (HROW.out W' (HBA.out.trans hb')) HS.out (hk'.blk (by have := HGL.out; omega) (HWA.out.row HNEW.out (by decide)) HNEW.out)
  rintro e w1 ⟨rfl, hw, hb, hk⟩
  have HW1 := Lib.hid (show IsC w1 B g (bs ++ m.block) by simpa using hw)
  have HB1 := Lib.hid (HBA.out.trans hb)
  have HK1 := Lib.hid (HKA.out.trans hk)
  clear hw hb hk
  go_wp2
  go_end0
  exact ⟨rfl, HW1.out, HB1.out, HK1.out⟩
set_option maxHeartbeats 4000000 in
theorem put_of {w : World} {B g bx : Nat} {bs : List Int} {a : MA} {m : MT} (h : IsC w B g bs) (hbx : bx < B) (hbox : MBox w bx a m) (hr : ∀ W : World, Below B w W → MC W a m) (hwf : MWf m) (hfit : fitM m 3 = true) (hl : bs.length ≤ 500000) :
    Calls Try.prog 22 #[.pointer (some ⟨bx, 0, none⟩), .pointer (some ⟨g, 0, none⟩), .int .i64 3] w fun e w' => e = .returned (.tuple #[]) ∧ IsC w' B g (bs ++ putB m 3) ∧ Below B w w' ∧ CKeep w w' g := by
  obtain ⟨c0, c1, c34, c67, c68, c69, c70, c71, c72⟩ := hbox.cells
  have HBOX := Lib.hid hbox
  have HW := Lib.hid h
  have HR := Lib.hid hr
  have HWF := Lib.hid hwf
  have HL := Lib.hid hl
  have HBX := Lib.hid hbx
  have hfit' : 0 ≤ m.of_ ∧ m.of_ ≤ 255 := by exact of_decide_eq_true hfit
  have HFIT := Lib.hid hfit'
  have hu : IntKind.u64.wrap m.of_ = m.of_ := u64w_id hfit'.1 (by omega)
  have hmod : m.of_ % 18446744073709551616 = m.of_ := by omega
  have e : putB m 3 = digs (wid 1) m.of_.toNat := rfl
  rw [e]
  obtain ⟨x, hx⟩ : ∃ x, m.of_ = x := ⟨_, rfl⟩
  rw [hx] at c71 hu hmod hfit' HFIT ⊢
  clear h hbx hbox hr hwf hfit hl hfit' hx e
  go_enter Try.func22, Try.ntmps22
  go_wp2_with fail
  refine (cnum_int x 1 HFIT.out.1 HW.out (by have := HL.out; omega)).mono ?_
  rintro e w1 ⟨rfl, hw, hb, hk⟩
  have HW1 := Lib.hid hw
  have HB1 := Lib.hid hb
  have HK1 := Lib.hid hk
  clear hw hb hk
  go_wp2
  go_end0
  exact ⟨rfl, HW1.out, HB1.out, HK1.out⟩
set_option maxHeartbeats 4000000 in
theorem put_code {w : World} {B g bx : Nat} {bs : List Int} {a : MA} {m : MT} (h : IsC w B g bs) (hbx : bx < B) (hbox : MBox w bx a m) (hr : ∀ W : World, Below B w W → MC W a m) (hwf : MWf m) (hfit : fitM m 9 = true) (hl : bs.length ≤ 500000) :
    Calls Try.prog 22 #[.pointer (some ⟨bx, 0, none⟩), .pointer (some ⟨g, 0, none⟩), .int .i64 9] w fun e w' => e = .returned (.tuple #[]) ∧ IsC w' B g (bs ++ putB m 9) ∧ Below B w w' ∧ CKeep w w' g := by
  obtain ⟨c0, c1, c34, c67, c68, c69, c70, c71, c72⟩ := hbox.cells
  have HBOX := Lib.hid hbox
  have HW := Lib.hid h
  have HR := Lib.hid hr
  have HWF := Lib.hid hwf
  have HL := Lib.hid hl
  have HBX := Lib.hid hbx
  have hfit' : 0 ≤ m.code ∧ m.code ≤ 255 := by exact of_decide_eq_true hfit
  have HFIT := Lib.hid hfit'
  have hu : IntKind.u64.wrap m.code = m.code := u64w_id hfit'.1 (by omega)
  have hmod : m.code % 18446744073709551616 = m.code := by omega
  have e : putB m 9 = digs (wid 1) m.code.toNat := rfl
  rw [e]
  obtain ⟨x, hx⟩ : ∃ x, m.code = x := ⟨_, rfl⟩
  rw [hx] at c72 hu hmod hfit' HFIT ⊢
  clear h hbx hbox hr hwf hfit hl hfit' hx e
  go_enter Try.func22, Try.ntmps22
  go_wp2_with fail
  refine (cnum_int x 1 HFIT.out.1 HW.out (by have := HL.out; omega)).mono ?_
  rintro e w1 ⟨rfl, hw, hb, hk⟩
  have HW1 := Lib.hid hw
  have HB1 := Lib.hid hb
  have HK1 := Lib.hid hk
  clear hw hb hk
  go_wp2
  go_end0
  exact ⟨rfl, HW1.out, HB1.out, HK1.out⟩
set_option maxHeartbeats 4000000 in
theorem put_data {w : World} {B g bx : Nat} {bs : List Int} {a : MA} {m : MT} (h : IsC w B g bs) (hbx : bx < B) (hbox : MBox w bx a m) (hr : ∀ W : World, Below B w W → MC W a m) (hwf : MWf m) (hfit : fitM m 5 = true) (hl : bs.length ≤ 500000) :
    Calls Try.prog 22 #[.pointer (some ⟨bx, 0, none⟩), .pointer (some ⟨g, 0, none⟩), .int .i64 5] w fun e w' => e = .returned (.tuple #[]) ∧ IsC w' B g (bs ++ putB m 5) ∧ Below B w w' ∧ CKeep w w' g := by
  obtain ⟨c0, c1, c34, c67, c68, c69, c70, c71, c72⟩ := hbox.cells
  have HBOX := Lib.hid hbox
  have HW := Lib.hid h
  have HR := Lib.hid hr
  have HWF := Lib.hid hwf
  have HL := Lib.hid hl
  have HBX := Lib.hid hbx
  have hfit' : m.data.length ≤ 2048 := by exact of_decide_eq_true hfit
  have HFIT := Lib.hid hfit'
  have HRL := Lib.hid (show ∀ W : World, Below B w W → Kd.C (Kd.int .u8) W a.da m.data.length m.data from fun W hb => (hr W hb).data)
  have HLC := Lib.hid (hr w (Below.refl _ _)).dc
  have e : putB m 5 = varB m.data.length ++ m.data := rfl
  rw [e]
  obtain ⟨x, hx⟩ : ∃ x, m.data = x := ⟨_, rfl⟩
  rw [hx] at c68 hfit' HFIT HRL HLC ⊢
  clear h hbx hbox hr hwf hfit hl hfit' hx e
  go_enter Try.func22, Try.ntmps22
  go_wp2_with fail
  refine (ctext_calls a.da a.dc x HW.out (fun W' hb' _ => HRL.out W' hb') HLC.out (by have := HL.out; have := HFIT.out; omega)).mono ?_
  rintro e w1 ⟨rfl, hw, hb, hk⟩
  have HW1 := Lib.hid hw
  have HB1 := Lib.hid hb
  have HK1 := Lib.hid hk
  clear hw hb hk
  go_wp2
  go_end0
  exact ⟨rfl, HW1.out, HB1.out, HK1.out⟩
set_option maxHeartbeats 4000000 in
theorem put_item {w : World} {B g bx : Nat} {bs : List Int} {a : MA} {m : MT} (h : IsC w B g bs) (hbx : bx < B) (hbox : MBox w bx a m) (hr : ∀ W : World, Below B w W → MC W a m) (hwf : MWf m) (hfit : fitM m 6 = true) (hl : bs.length ≤ 500000) :
    Calls Try.prog 22 #[.pointer (some ⟨bx, 0, none⟩), .pointer (some ⟨g, 0, none⟩), .int .i64 6] w fun e w' => e = .returned (.tuple #[]) ∧ IsC w' B g (bs ++ putB m 6) ∧ Below B w w' ∧ CKeep w w' g := by
  obtain ⟨c0, c1, c34, c67, c68, c69, c70, c71, c72⟩ := hbox.cells
  have HBOX := Lib.hid hbox
  have HW := Lib.hid h
  have HR := Lib.hid hr
  have HWF := Lib.hid hwf
  have HL := Lib.hid hl
  have HBX := Lib.hid hbx
  have hfit' : m.item.length ≤ 64 := by exact of_decide_eq_true hfit
  have HFIT := Lib.hid hfit'
  have HRL := Lib.hid (show ∀ W : World, Below B w W → Kd.C (Kd.int .u8) W a.ia m.item.length m.item from fun W hb => (hr W hb).item)
  have HLC := Lib.hid (hr w (Below.refl _ _)).ic
  have e : putB m 6 = varB m.item.length ++ m.item := rfl
  rw [e]
  obtain ⟨x, hx⟩ : ∃ x, m.item = x := ⟨_, rfl⟩
  rw [hx] at c67 hfit' HFIT HRL HLC ⊢
  clear h hbx hbox hr hwf hfit hl hfit' hx e
  go_enter Try.func22, Try.ntmps22
  go_wp2_with fail
  refine (ctext_calls a.ia a.ic x HW.out (fun W' hb' _ => HRL.out W' hb') HLC.out (by have := HL.out; have := HFIT.out; omega)).mono ?_
  rintro e w1 ⟨rfl, hw, hb, hk⟩
  have HW1 := Lib.hid hw
  have HB1 := Lib.hid hb
  have HK1 := Lib.hid hk
  clear hw hb hk
  go_wp2
  go_end0
  exact ⟨rfl, HW1.out, HB1.out, HK1.out⟩
set_option maxHeartbeats 4000000 in
theorem put_nonce {w : World} {B g bx : Nat} {bs : List Int} {a : MA} {m : MT} (h : IsC w B g bs) (hbx : bx < B) (hbox : MBox w bx a m) (hr : ∀ W : World, Below B w W → MC W a m) (hwf : MWf m) (hfit : fitM m 8 = true) (hl : bs.length ≤ 500000) :
    Calls Try.prog 22 #[.pointer (some ⟨bx, 0, none⟩), .pointer (some ⟨g, 0, none⟩), .int .i64 8] w fun e w' => e = .returned (.tuple #[]) ∧ IsC w' B g (bs ++ putB m 8) ∧ Below B w w' ∧ CKeep w w' g := by
  obtain ⟨c0, c1, c34, c67, c68, c69, c70, c71, c72⟩ := hbox.cells
  have HBOX := Lib.hid hbox
  have HW := Lib.hid h
  have HR := Lib.hid hr
  have HWF := Lib.hid hwf
  have HL := Lib.hid hl
  have HBX := Lib.hid hbx
  have hfit' : 0 ≤ m.nonce := by exact hwf.nonce.1
  have HFIT := Lib.hid hfit'
  have e : putB m 8 = digs (wid 8) m.nonce.toNat := rfl
  rw [e]
  obtain ⟨x, hx⟩ : ∃ x, m.nonce = x := ⟨_, rfl⟩
  rw [hx] at c70 hfit' HFIT ⊢
  clear h hbx hbox hr hwf hfit hl hfit' hx e
  go_enter Try.func22, Try.ntmps22
  go_wp2_with fail
  refine (cnum_int x 8 HFIT.out HW.out (by have := HL.out; omega)).mono ?_
  rintro e w1 ⟨rfl, hw, hb, hk⟩
  have HW1 := Lib.hid hw
  have HB1 := Lib.hid hb
  have HK1 := Lib.hid hk
  clear hw hb hk
  go_wp2
  go_end0
  exact ⟨rfl, HW1.out, HB1.out, HK1.out⟩
end Go.Proofs.Ytfcmdhimlfoofaa.Hand


/- The headers are put: walked (Msg.put). -/
namespace Go.Proofs.Ytfcmdhimlfoofaa.Hand
open Go Go.RowKit Go.Proofs.Ytfcmdhimlfoofaa.Plain Go.Proofs.Ytfcmdhimlfoofaa.PAll Go.Proofs.YtfcmdhimlfoofaaW.PrintWords Go.Proofs.YtfcmdhimlfoofaaW.PrintLast Go.Proofs.YtfcmdhimlfoofaaW.PrintMore
set_option linter.unusedVariables false
set_option linter.unusedSimpArgs false
set_option maxRecDepth 100000
attribute [local go_sem ↓] Go.wp_at_zero Go.wp_at_succ
set_option maxHeartbeats 4000000 in
theorem put_heads {w : World} {B g bx : Nat} {bs : List Int} {a : MA} {m : MT} (h : IsC w B g bs) (hbx : bx < B) (hbox : MBox w bx a m) (hr : ∀ W : World, Below B w W → MC W a m) (hwf : MWf m) (hfit : fitM m 2 = true) (hl : bs.length ≤ 500000) :
    Calls Try.prog 22 #[.pointer (some ⟨bx, 0, none⟩), .pointer (some ⟨g, 0, none⟩), .int .i64 2] w fun e w' => e = .returned (.tuple #[]) ∧ IsC w' B g (bs ++ putB m 2) ∧ Below B w w' ∧ CKeep w w' g := by
  obtain ⟨c0, c1, c34, c67, c68, c69, c70, c71, c72⟩ := hbox.cells
  have HC34 := Lib.hid (show ∀ W : World, Below B w W → W.cell? ⟨bx, 34, none⟩ = some (.slice a.ha m.heads.length a.hc) from fun W hb => (hb.cell (p := ⟨bx, 34, none⟩) hbx).trans c34)
  have HW := Lib.hid h
  have HL := Lib.hid hl
  have hfit' : m.heads.length ≤ 2000 := of_decide_eq_true hfit
  have HR := Lib.hid (show ∀ W : World, Below B w W → Kd.C kHd W a.ha m.heads.length m.heads from fun W hb => (hr W hb).heads)
  have HOKS := Lib.hid hwf.heads
  have e : putB m 2 = varB m.heads.length ++ m.heads.flatMap hdB := rfl
  rw [e]
  obtain ⟨xs, hxs⟩ : ∃ xs, m.heads = xs := ⟨_, rfl⟩
  rw [hxs] at HC34 hfit' HR HOKS c34 ⊢
  obtain ⟨n, hn⟩ : ∃ n, xs.length = n := ⟨_, rfl⟩
  have HN := Lib.hid hn.symm
  rw [hn] at HC34 hfit' HR c34 ⊢
  have HN2 := Lib.hid hfit'
  have hu : IntKind.u64.wrap (n : Int) = (n : Int) := u64w_id (by omega) (by omega)
  obtain ⟨A, hA⟩ : ∃ A, a.ha = A := ⟨_, rfl⟩
  obtain ⟨c, hc⟩ : ∃ c, a.hc = c := ⟨_, rfl⟩
  rw [hA, hc] at c34
  rw [hA, hc] at HC34
  rw [hA] at HR
  clear h hbx hbox hr hwf hfit hl hfit' hxs hn e hA hc c0 c1 c67 c68 c69 c70 c71 c72
  go_enter Try.func22, Try.ntmps22
  go_wp2_with fail
  refine (cvar_calls n HW.out (by have := HL.out; omega)).mono ?_
  rintro e w1 ⟨rfl, hw, hb, hk⟩
  have HW1 := Lib.hid hw
  have HB1 := Lib.hid hb
  have HK1 := Lib.hid hk
  have c34' := HC34.out _ hb
  clear hw hb hk hu c34
  go_wp2_with fail
  clear c34'
  go_loopw [43] (fun i wr => ∃ k : Int, 0 ≤ k ∧ k ≤ (n : Int) ∧ i = .int .i64 k ∧ Hid (IsC wr B g (bs ++ varB n ++ (xs.take k.toNat).flatMap hdB) ∧ Below B w wr ∧ CKeep w wr g)) (fun i _ => ((n : Int) - intOf i).toNat)
  case atStart => exact ⟨0, by omega, by omega, rfl, Lib.hid ⟨by simpa using HW1.out, HB1.out, HK1.out⟩⟩
  case round =>
    obtain ⟨k, hk0, hkn, rfl, H⟩ := hrel
    by_cases hlt : k < (n : Int)
    · obtain ⟨hw, hb, hk⟩ := H.out
      have hcr := HR.out wr hb
      rw [HN.out] at hcr
      obtain ⟨b, o, rfl, hbl, hat⟩ := C_heads hcr (by have := HN.out; omega)
      have hkx : k < (xs.length : Int) := by have := HN.out; omega
      obtain ⟨hrg, hp32, hr32⟩ := hat k.toNat (by omega)
      have HTK := Lib.hid (takeHd hk0 hkx)
      have hok : HOk (rdHd xs k.toNat) := by rw [rdHd_eq (by omega)]; exact HOKS.out _ (List.getElem_mem _)
      have hlen := hds_len (l := xs.take k.toNat) (fun x hx => HOKS.out x (List.mem_of_mem_take hx))
      have hlen2 : (xs.take k.toNat).length ≤ n := by rw [List.length_take]; have := HN.out; omega
      obtain ⟨⟨v, p, r, t, bb, nn⟩, hx⟩ : ∃ x, rdHd xs k.toNat = x := ⟨_, rfl⟩
      rw [hx] at hrg hp32 hr32 HTK hok
      simp only at hp32 hr32
      have HOK := Lib.hid hok
      have HRG := Lib.hid (show wr.rangeAt b (o + k.toNat * 68) (hcells v p r t bb nn) from hrg)
      have hsz := hsize v p r t bb nn hp32 hr32
      obtain ⟨C, hC⟩ : ∃ C, (hcells v p r t bb nn) = C := ⟨_, rfl⟩
      have HHV := Lib.hid (show hV v p r t bb nn = .agg C.toArray by rw [hV, hC])
      rw [hC] at HRG hsz
      have hcl : C.length = 68 := by rw [← hC]; exact hcells_len _ _ _ _ _ _ hp32 hr32
      have HSZ := Lib.hid (show (Try.prog.info? 54).map (·.size) = some C.length by simpa using hsz)
      have HSZ2 := Lib.hid (show (Try.prog.info? 54).map (·.size) = some C.toArray.size by simpa using hsz)
      have HONE := Lib.hid (show C.toArray.all (·.oneCell') = true by rw [← hC]; exact all_oneCell_toArray (hcells_one1 v p r t bb nn))
      have hz := (zero_of_info infoH).1
      obtain ⟨Z, hZ⟩ : ∃ Z, (hcells 0 z32 z32 0 0 0).toArray = Z := ⟨_, rfl⟩
      rw [hZ] at hz
      have HZS := Lib.hid (show Z.size = C.toArray.size by rw [← hZ]; simp [hcl]; rw [hcells_len _ _ _ _ _ _ (by decide) (by decide)])
      obtain ⟨CA, hCA⟩ : ∃ CA, C.toArray = CA := ⟨_, rfl⟩
      rw [hCA] at HSZ2 HONE HZS HHV
      have HU := Lib.hid Try.underlying54
      have HCA := Lib.hid hCA
      have HNEW := Lib.hid (show (wr.alloc (.cells CA 54)).heap[wr.heap.size]? = some (.cells CA 54 (0, 0)) by simpa using heap_alloc_new wr _)
      have HLEN := Lib.hid (show (bs ++ varB n ++ (xs.take k.toNat).flatMap hdB).length + 80 ≤ 1000000 by
        have := HL.out
        have := HN2.out
        have := varB_length n
        simp only [List.length_append]
        omega)
      have HDB := Lib.hid (show headB v p r t bb nn = hdB ⟨v, p, r, t, bb, nn⟩ from rfl)
      have HDL := Lib.hid (hdB_len hok)
      have wk : wrap64 (k + 1) = k + 1 := wrap64_id (by omega) (by have := HN2.out; omega)
      have HLT := Lib.hid hlt
      have HWA := Lib.hid (hw.alloc (.cells CA 54))
      have HBA := Lib.hid (show Below B wr (wr.alloc (.cells CA 54)) from (Below.refl _ _).alloc (by have := hw.1; have := hw.lt; omega) _)
      have HKA := Lib.hid (hk.below HW.out.lt (below_alloc (Below.refl _ _) (.cells CA 54)))
      have HB := Lib.hid hb
      have HGL := Lib.hid hw.lt
      clear hrg hp32 hr32 hok hsz hC hcl hZ hCA hcr hbl hat hx hw hb hk H hlen hlen2 hkx
      go_wp2_with (first
        | ((with_reducible show wpList _ _ _ (Oper.mk _ (Op.load 54 (.tmp 45)) _ _ _ _ :: _) _ _); (go_loud (refine wpList_load_mid rfl 54 (.tmp 45) rfl b (o + k.toNat * 68) rfl C _ HRG.out HU.out rfl HSZ.out ?_)); rw [HCA.out])
        | ((with_reducible show wpList _ _ _ (Oper.mk _ (Op.store _ (.tmp 7) _) _ _ _ _ :: _) _ _); (go_loud (refine wpl_store_new rfl 54 (.tmp 7) (.tmp 46) rfl Z CA rfl rfl HSZ2.out HZS.out HONE.out ?_)))
        | ((with_reducible show wpList _ _ _ (Oper.mk _ (Op.load 54 (.tmp 7)) _ _ _ _ :: _) _ _); (go_loud (refine wpList_load_row rfl 54 (.tmp 7) rfl wr.heap.size rfl 54 CA (0, 0) _ HNEW.out HU.out rfl HSZ2.out ?_))))
      rw [← HHV.out]
      have HQ := HOK.out
      refine (hbytes_calls v p r t bb nn _ HQ.p32 HQ.r32 HQ.v0 HQ.v1 HQ.t0 HQ.t1 HQ.b0 HQ.b1 HQ.n0 HQ.n1).mono ?_
      rintro e w2 ⟨x, rfl, hv2, hb2⟩
      rw [HDB.out] at hv2
      obtain ⟨D, hD⟩ : ∃ D, hdB ⟨v, p, r, t, bb, nn⟩ = D := ⟨_, rfl⟩
      rw [hD] at hv2 HTK HDL
      obtain ⟨A1, c1, rfl, hle1, hC1⟩ := Kd.R_reads hv2
      obtain ⟨W1, hW1⟩ : ∃ W1, wr.alloc (.cells CA 54) = W1 := ⟨_, rfl⟩
      rw [hW1] at hv2 hb2 HWA HBA HKA
      have HR2 := Lib.hid hv2
      have HW2 := Lib.hid (HWA.out.below hb2)
      have HB2 := Lib.hid (HBA.out.trans (Below.mono hb2 (by have := HWA.out.1; have := HWA.out.lt; omega)))
      have HK2 := Lib.hid (HKA.out.below HW.out.lt hb2)
      have HGB := Lib.hid (show g < W1.heap.size from HWA.out.lt)
      have HROWLT := Lib.hid (show ∀ k, rowAt w2 g = some k → k < W1.heap.size by
        have e1 : rowAt w2 g = rowAt W1 g := by
          unfold rowAt
          rw [World.cell?_of_block (w := W1) (hb2.block g HWA.out.lt)]
        rw [e1]
        exact HWA.out.rowlt)
      rw [HDL.out] at hle1
      rw [HDL.out]
      have HLE1 := Lib.hid hle1
      have HWB := Lib.hid (HW2.out.alloc (.cells #[.slice A1 80 c1] 23))
      have HBB := Lib.hid (show Below B w2 (w2.alloc (.cells #[.slice A1 80 c1] 23)) from (Below.refl _ _).alloc (by have := HW2.out.1; have := HW2.out.lt; omega) _)
      have HKB := Lib.hid (HK2.out.below HW.out.lt (below_alloc (Below.refl _ _) (.cells #[.slice A1 80 c1] 23)))
      have HNB := Lib.hid (show (w2.alloc (.cells #[.slice A1 80 c1] 23)).heap[w2.heap.size]? = some (.cells #[.slice A1 80 c1] 23 (0, 0)) by simpa using heap_alloc_new w2 _)
      have HG2 := Lib.hid HW2.out.lt
      clear hv2 hb2 hC1 hW1 hD hle1 HWA HKA HNEW
      go_wp2_with fail
      refine (cput_calls (some ⟨w2.heap.size, 0, none⟩) 1 [D] HWB.out (fun W' hb' hk' => ?_) (by simp) (by have := HLEN.out; have := HDL.out; simp only [List.flatten_cons, List.flatten_nil, List.append_nil]; omega)).mono ?_
      · have hk3 := ((CKeep.refl w2 g).below HW2.out.lt (below_alloc (Below.refl _ _) (.cells #[.slice A1 80 c1] 23))).trans hk'
        have hR3 := R_ckeep HR2.out hk3 HGB.out HROWLT.out
        rw [HDL.out] at hR3
        have h3 := (Kd.R_reads' hR3).2.2
        have h4 := (hk'.blk (by have := HG2.out; omega) (HWB.out.row HNB.out (by decide)) HNB.out)
        have hle := HLE1.out
        rw [← HDL.out] at h4 hle
        exact C_row1 h4 hle h3
      rintro e w3 ⟨rfl, hw3, hb3, hk3⟩
      have HW3 := Lib.hid (show IsC w3 B g (bs ++ varB n ++ (xs.take (k + 1).toNat).flatMap hdB) by rw [HTK.out, ← List.append_assoc]; simpa using hw3)
      have HB3 := Lib.hid (HB.out.trans (HB2.out.trans (HBB.out.trans hb3)))
      have HK3 := Lib.hid (HKB.out.trans hk3)
      clear hw3 hb3 hk3 HWB HBB HNB
      go_wp2
      go_roundw
      case rel => exact ⟨k + 1, by omega, by have := HLT.out; omega, by rw [wk], Lib.hid ⟨HW3.out, HB3.out, HK3.out⟩⟩
      case measure => simp [intOf]; have := HLT.out; omega
    · obtain ⟨hw, hb, hk⟩ := H.out
      have hkx : k.toNat = xs.length := by have := HN.out; omega
      rw [hkx, List.take_length, List.append_assoc] at hw
      have HW2 := Lib.hid hw
      have HB2 := Lib.hid hb
      have HK2 := Lib.hid hk
      clear hw hb hk hkx H
      go_wp2_with fail
      go_end0
      exact ⟨rfl, HW2.out, HB2.out, HK2.out⟩
end Go.Proofs.Ytfcmdhimlfoofaa.Hand


/- The entries are put: walked (Msg.put); and any field. -/
namespace Go.Proofs.Ytfcmdhimlfoofaa.Hand
open Go Go.RowKit Go.Proofs.Ytfcmdhimlfoofaa.Plain Go.Proofs.Ytfcmdhimlfoofaa.PAll Go.Proofs.YtfcmdhimlfoofaaW.PrintWords Go.Proofs.YtfcmdhimlfoofaaW.PrintLast Go.Proofs.YtfcmdhimlfoofaaW.PrintMore
set_option linter.unusedVariables false
set_option linter.unusedSimpArgs false
set_option maxRecDepth 100000
attribute [local go_sem ↓] Go.wp_at_zero Go.wp_at_succ
theorem cvar_int {w : World} {B g : Nat} {bs : List Int} (x : Int) (hx : 0 ≤ x) (h : IsC w B g bs) (hl : bs.length ≤ 999000) :
    Calls Try.prog 41 #[.pointer (some ⟨g, 0, none⟩), .int .u64 x] w fun e w' => e = .returned (.tuple #[]) ∧ IsC w' B g (bs ++ varB x.toNat) ∧ Below B w w' ∧ CKeep w w' g := by
  obtain ⟨n, rfl⟩ := Int.eq_ofNat_of_zero_le hx
  exact cvar_calls n h hl
theorem takeEB {xs : List ET} {k : Int} (h0 : 0 ≤ k) (h1 : k < (xs.length : Int)) : (xs.take (k + 1).toNat).flatMap entB = (xs.take k.toNat).flatMap entB ++ entB (rdE xs k) := by
  rw [takeE h0 h1]
  simp only [List.flatMap_append, List.flatMap_cons, List.flatMap_nil, List.append_nil]
set_option maxHeartbeats 4000000 in
theorem put_ents {w0 w : World} {B g bx : Nat} {bs : List Int} {a : MA} {m : MT} (hB0 : w0.heap.size = B) (hb0 : Below B w0 w) (h : IsC w B g bs) (hbx : bx < B) (hbox : MBox w bx a m) (hm : MC w0 a m) (hwf : MWf m) (hfit : fitM m 7 = true) (hl : bs.length ≤ 500000) :
    Calls Try.prog 22 #[.pointer (some ⟨bx, 0, none⟩), .pointer (some ⟨g, 0, none⟩), .int .i64 7] w fun e w' => e = .returned (.tuple #[]) ∧ IsC w' B g (bs ++ putB m 7) ∧ Below B w w' ∧ CKeep w w' g := by
  obtain ⟨c0, c1, c34, c67, c68, c69, c70, c71, c72⟩ := hbox.cells
  have HC69 := Lib.hid (show ∀ W : World, Below B w W → W.cell? ⟨bx, 69, none⟩ = some (.slice a.ea m.ents.length a.ec) from fun W hb => (hb.cell (p := ⟨bx, 69, none⟩) hbx).trans c69)
  have HW := Lib.hid h
  have HL := Lib.hid hl
  simp only [fitM, Bool.and_eq_true, List.all_eq_true] at hfit
  have hfit' : m.ents.length ≤ 16 := of_decide_eq_true hfit.1
  have HF := Lib.hid hfit.2
  have HR := Lib.hid hm.ents
  have HW0 := Lib.hid (show ∀ W : World, Below B w W → Below w0.heap.size w0 W from fun W hb => by rw [hB0]; exact hb0.trans hb)
  have H32 := Lib.hid (show ∀ x ∈ m.ents, ∀ p ∈ x.path, p.length = 32 from fun x hx p hp => ((hwf.ents x hx).2 p hp).1)
  have e : putB m 7 = varB m.ents.length ++ m.ents.flatMap entB := rfl
  rw [e]
  obtain ⟨xs, hxs⟩ : ∃ xs, m.ents = xs := ⟨_, rfl⟩
  rw [hxs] at HC69 hfit' HR HF H32 c69 ⊢
  obtain ⟨n, hn⟩ : ∃ n, xs.length = n := ⟨_, rfl⟩
  have HN := Lib.hid hn.symm
  rw [hn] at HC69 hfit' HR c69 ⊢
  have HN2 := Lib.hid hfit'
  have hu : IntKind.u64.wrap (n : Int) = (n : Int) := u64w_id (by omega) (by omega)
  obtain ⟨A, hA⟩ : ∃ A, a.ea = A := ⟨_, rfl⟩
  obtain ⟨c, hc⟩ : ∃ c, a.ec = c := ⟨_, rfl⟩
  rw [hA, hc] at c69
  rw [hA, hc] at HC69
  rw [hA] at HR
  clear h hbx hbox hm hB0 hb0 hwf hfit hl hfit' hxs hn e hA hc c0 c1 c67 c68 c34 c70 c71 c72
  go_enter Try.func22, Try.ntmps22
  go_wp2_with fail
  refine (cvar_calls n HW.out (by have := HL.out; omega)).mono ?_
  rintro e w1 ⟨rfl, hw, hb, hk⟩
  have HW1 := Lib.hid hw
  have HB1 := Lib.hid hb
  have HK1 := Lib.hid hk
  have c69' := HC69.out _ hb
  clear hw hb hk hu c69
  go_wp2_with fail
  clear c69'
  go_loopw [102] (fun i wr => ∃ k : Int, 0 ≤ k ∧ k ≤ (n : Int) ∧ i = .int .i64 k ∧ Hid (IsC wr B g (bs ++ varB n ++ (xs.take k.toNat).flatMap entB) ∧ Below B w wr ∧ CKeep w wr g)) (fun i _ => ((n : Int) - intOf i).toNat)
  case atStart => exact ⟨0, by omega, by omega, rfl, Lib.hid ⟨by simpa using HW1.out, HB1.out, HK1.out⟩⟩
  case round =>
    obtain ⟨k, hk0, hkn, rfl, H⟩ := hrel
    by_cases hlt : k < (n : Int)
    · obtain ⟨hw, hb, hk⟩ := H.out
      have hkx : k < (xs.length : Int) := by have := HN.out; omega
      obtain ⟨ad, A1, c1, A2, c2, rfl, x0, x1, x2, x3, l1, C1, l2, C2⟩ := at_E HR.out k hk0 hlt
      have HC12 := Lib.hid (show ∀ W : World, Below B wr W → Kd.C (Kd.int .u8) W A1 (rdE xs k).tx.length (rdE xs k).tx ∧ Kd.C kH W A2 (rdE xs k).path.length (rdE xs k).path from fun W hbw => ⟨Kd.C_below C1 (HW0.out W (hb.trans hbw)), Kd.C_below C2 (HW0.out W (hb.trans hbw))⟩)
      replace x0 := pw_cell_below (HW0.out _ hb) x0
      replace x1 := pw_cell_below (HW0.out _ hb) x1
      replace x2 := pw_cell_below (HW0.out _ hb) x2
      replace x3 := pw_cell_below (HW0.out _ hb) x3
      have HTK := Lib.hid (takeEB hk0 hkx)
      have hfe := HF.out _ (rdE_mem hk0 hkx)
      have h32 := H32.out _ (rdE_mem hk0 hkx)
      have hlen := ents_len (l := xs.take k.toNat) (fun x hx => HF.out x (List.mem_of_mem_take hx)) (fun x hx => H32.out x (List.mem_of_mem_take hx))
      have hlen2 : (xs.take k.toNat).length ≤ n := by rw [List.length_take]; have := HN.out; omega
      obtain ⟨⟨tx, cnt, idx, path⟩, hx⟩ : ∃ x, rdE xs k = x := ⟨_, rfl⟩
      rw [hx] at x0 x1 x2 x3 l1 l2 HC12 HTK hfe h32
      simp only at x0 x1 x2 x3 l1 l2 HC12 h32
      obtain ⟨f1, f2, f3, f4, f5, f6⟩ := of_decide_eq_true hfe
      simp only at f1 f2 f3 f4 f5 f6
      have HFE := Lib.hid (And.intro f1 (And.intro f2 (And.intro f3 (And.intro f4 (And.intro f5 f6)))))
      have H32' := Lib.hid h32
      have HLEN := Lib.hid (show (bs ++ varB n ++ (xs.take k.toNat).flatMap entB).length ≤ 530000 by
        have := HL.out
        have := HN2.out
        have := varB_length n
        simp only [List.length_append]
        omega)
      have HEB := Lib.hid (show entB ⟨tx, cnt, idx, path⟩ = varB tx.length ++ tx ++ varB cnt.toNat ++ varB idx.toNat ++ hashesB path from rfl)
      obtain ⟨pre, hpre⟩ : ∃ x, bs ++ varB n ++ (xs.take k.toNat).flatMap entB = x := ⟨_, rfl⟩
      have HPRE := Lib.hid hpre
      rw [hpre] at hw HLEN
      have HL1 := Lib.hid l1
      have HL2 := Lib.hid l2
      have u1 : IntKind.u64.wrap cnt = cnt := u64w_id f2 (by omega)
      have u2 : IntKind.u64.wrap idx = idx := u64w_id f4 (by omega)
      have u1' : cnt % 18446744073709551616 = cnt := by omega
      have u2' : idx % 18446744073709551616 = idx := by omega
      have wk : wrap64 (k + 1) = k + 1 := wrap64_id (by omega) (by have := HN2.out; omega)
      have HLT := Lib.hid hlt
      obtain ⟨EC, hEC⟩ : ∃ E, (#[.slice A1 tx.length c1, .int .i64 cnt, .int .i64 idx, .slice A2 path.length c2] : Array Value) = E := ⟨_, rfl⟩
      have HEC := Lib.hid hEC
      have HWA := Lib.hid (hw.alloc (.cells #[.slice A1 tx.length c1, .int .i64 cnt, .int .i64 idx, .slice A2 path.length c2] 67))
      have HBA := Lib.hid (show Below B wr (wr.alloc (.cells #[.slice A1 tx.length c1, .int .i64 cnt, .int .i64 idx, .slice A2 path.length c2] 67)) from (Below.refl _ _).alloc (by have := hw.1; have := hw.lt; omega) _)
      have HKA := Lib.hid (hk.below HW.out.lt (below_alloc (Below.refl _ _) (.cells #[.slice A1 tx.length c1, .int .i64 cnt, .int .i64 idx, .slice A2 path.length c2] 67)))
      have HNEW := Lib.hid (show (wr.alloc (.cells #[.slice A1 tx.length c1, .int .i64 cnt, .int .i64 idx, .slice A2 path.length c2] 67)).heap[wr.heap.size]? = some (.cells #[.slice A1 tx.length c1, .int .i64 cnt, .int .i64 idx, .slice A2 path.length c2] 67 (0, 0)) by simpa using heap_alloc_new wr _)
      have HB := Lib.hid hb
      have HGL := Lib.hid (show wr.heap.size ≠ g by have := hw.lt; omega)
      clear hw hb hk C1 C2 l1 l2 hfe h32 hlen hlen2 hx f1 f2 f3 f4 f5 f6 hpre H hkx hEC
      go_wp2_with fail
      refine (ctext_calls A1 c1 tx HWA.out (fun W' hb' _ => (HC12.out W' (HBA.out.trans hb')).1) HL1.out (by have := HLEN.out; have := HFE.out.1; omega)).mono ?_
      rintro e w2 ⟨rfl, hw2, hb2, hk2⟩
      have HW2 := Lib.hid hw2
      have HB2 := Lib.hid (HBA.out.trans hb2)
      have HK2 := Lib.hid (HKA.out.trans hk2)
      have HN2' := Lib.hid (hk2.blk HGL.out (HWA.out.row HNEW.out (by decide)) HNEW.out)
      have y1 := (blk_cell HN2'.out 1).trans (show _ = some (Value.int .i64 cnt) from rfl)
      clear hw2 hb2 hk2 HWA HBA HKA HNEW
      go_wp2_with fail
      with_reducible refine (cvar_int cnt HFE.out.2.1 HW2.out (by have := HLEN.out; have := HFE.out.1; have := varB_length tx.length; simp only [List.length_append]; omega)).mono ?_
      rintro e w3 ⟨rfl, hw3, hb3, hk3⟩
      have HW3 := Lib.hid hw3
      have HB3 := Lib.hid (HB2.out.trans hb3)
      have HK3 := Lib.hid (HK2.out.trans hk3)
      have HN3 := Lib.hid (hk3.blk HGL.out (HW2.out.row HN2'.out (by decide)) HN2'.out)
      have y2 := (blk_cell HN3.out 2).trans (show _ = some (Value.int .i64 idx) from rfl)
      clear hw3 hb3 hk3 HW2 HB2 HK2 HN2' y1
      go_wp2_with fail
      with_reducible refine (cvar_int idx HFE.out.2.2.2.1 HW3.out (by have := HLEN.out; have := HFE.out.1; have := varB_length tx.length; have := varB_length cnt.toNat; simp only [List.length_append]; omega)).mono ?_
      rintro e w4 ⟨rfl, hw4, hb4, hk4⟩
      have HW4 := Lib.hid hw4
      have HB4 := Lib.hid (HB3.out.trans hb4)
      have HK4 := Lib.hid (HK3.out.trans hk4)
      have HN4 := Lib.hid (hk4.blk HGL.out (HW3.out.row HN3.out (by decide)) HN3.out)
      have y3 := (blk_cell HN4.out 3).trans (show _ = some (Value.slice A2 path.length c2) from rfl)
      clear hw4 hb4 hk4 HW3 HB3 HK3 HN3 y2
      go_wp2_with fail
      with_reducible refine (hashes_calls A2 path.length c2 path HW4.out rfl (fun W hb => (HC12.out W (HB4.out.trans hb)).2) H32'.out HL2.out (by have := HLEN.out; have := HFE.out.1; have := HFE.out.2.2.2.2.2; have := varB_length tx.length; have := varB_length cnt.toNat; have := varB_length idx.toNat; simp only [List.length_append]; omega)).mono ?_
      rintro e w5 ⟨rfl, hw5, hb5, hk5⟩
      have HW5 := Lib.hid (show IsC w5 B g (bs ++ varB n ++ (xs.take (k + 1).toNat).flatMap entB) by rw [HTK.out, ← List.append_assoc, HPRE.out, HEB.out]; simpa [List.append_assoc] using hw5)
      have HB5 := Lib.hid (HB.out.trans (HB4.out.trans hb5))
      have HK5 := Lib.hid (HK4.out.trans hk5)
      clear hw5 hb5 hk5 HW4 HB4 HK4 HN4 y3 u1 u2 u1' u2'
      go_wp2
      go_roundw
      case rel => exact ⟨k + 1, by omega, by have := HLT.out; omega, by rw [wk], Lib.hid ⟨HW5.out, HB5.out, HK5.out⟩⟩
      case measure => simp [intOf]; have := HLT.out; omega
    · obtain ⟨hw, hb, hk⟩ := H.out
      have hkx : k.toNat = xs.length := by have := HN.out; omega
      rw [hkx, List.take_length, List.append_assoc] at hw
      have HW2 := Lib.hid hw
      have HB2 := Lib.hid hb
      have HK2 := Lib.hid hk
      clear hw hb hk hkx H
      go_wp2_with fail
      go_end0
      exact ⟨rfl, HW2.out, HB2.out, HK2.out⟩
/-- Any field. -/
theorem put_calls {w0 w : World} {B g bx : Nat} {bs : List Int} {a : MA} {m : MT} (f : Nat) (hf : f < 10) (hB0 : w0.heap.size = B) (hb0 : Below B w0 w) (h : IsC w B g bs) (hbx : bx < B) (hbox : MBox w bx a m) (hm : MC w0 a m) (hwf : MWf m) (hfit : fitM m f = true) (hl : bs.length ≤ 500000) :
    Calls Try.prog 22 #[.pointer (some ⟨bx, 0, none⟩), .pointer (some ⟨g, 0, none⟩), .int .i64 (f : Int)] w fun e w' => e = .returned (.tuple #[]) ∧ IsC w' B g (bs ++ putB m f) ∧ Below B w w' ∧ CKeep w w' g := by
  have hr : ∀ W : World, Below B w W → MC W a m := fun W hb => hm.below (by rw [hB0]; exact hb0.trans hb)
  rcases ten hf with rfl | rfl | rfl | rfl | rfl | rfl | rfl | rfl | rfl | rfl
  · exact put_loc h hbx hbox hr hwf hfit hl
  · exact put_stop h hbx hbox hr hwf hfit hl
  · exact put_heads h hbx hbox hr hwf hfit hl
  · exact put_of h hbx hbox hr hwf hfit hl
  · exact put_block h hbx hbox hr hwf hfit hl
  · exact put_data h hbx hbox hr hwf hfit hl
  · exact put_item h hbx hbox hr hwf hfit hl
  · exact put_ents hB0 hb0 h hbx hbox hm hwf hfit hl
  · exact put_nonce h hbx hbox hr hwf hfit hl
  · exact put_code h hbx hbox hr hwf hfit hl
end Go.Proofs.Ytfcmdhimlfoofaa.Hand


/- A message's Bytes: walked. -/
namespace Go.Proofs.Ytfcmdhimlfoofaa.Hand
open Go Go.RowKit Go.Proofs.Ytfcmdhimlfoofaa.Plain Go.Proofs.Ytfcmdhimlfoofaa.PAll Go.Proofs.YtfcmdhimlfoofaaW.PrintWords Go.Proofs.YtfcmdhimlfoofaaW.PrintLast Go.Proofs.YtfcmdhimlfoofaaW.PrintMore
set_option linter.unusedVariables false
set_option linter.unusedSimpArgs false
set_option maxRecDepth 100000
attribute [local go_sem ↓] Go.wp_at_zero Go.wp_at_succ
/-- The bytes when the fields before the k-th are put. -/
def accM (m : MT) (k : Nat) : List Int := digs 1 m.kind.toNat ++ ((List.range k).filter (usesM m.kind)).flatMap (putB m)
theorem acc_put {m : MT} {k : Nat} (h : usesM m.kind k = true) : accM m (k + 1) = accM m k ++ putB m k := by
  unfold accM
  rw [List.range_succ, List.filter_append, List.flatMap_append, List.append_assoc]
  simp [h]
theorem acc_skip {m : MT} {k : Nat} (h : usesM m.kind k = false) : accM m (k + 1) = accM m k := by
  unfold accM
  rw [List.range_succ, List.filter_append, List.flatMap_append]
  simp [h]
theorem acc_len {m : MT} (hw : MWf m) : ∀ (k : Nat), (∀ f, f < k → usesM m.kind f = true → fitM m f = true) → (accM m k).length ≤ 1 + ((List.range k).map maxB).sum
  | 0, _ => by simp [accM, digs_length]
  | k + 1, h => by
    have ih := acc_len hw k (fun f hf => h f (by omega))
    rw [List.range_succ, List.map_append, List.sum_append]
    cases hu : usesM m.kind k with
    | false =>
      rw [acc_skip hu]
      simp
      omega
    | true =>
      have := putB_len hw k (h k (by omega) hu)
      rw [acc_put hu, List.length_append]
      simp
      omega
theorem sum_max : ∀ k, k ≤ 10 → ((List.range k).map maxB).sum ≤ 185000 := by decide +kernel
theorem acc_all (m : MT) : accM m 10 = digs 1 m.kind.toNat ++ bodyM m := rfl
theorem bad_any {m : MT} {f : Nat} (hf : f < 10) (hu : usesM m.kind f = false) (hn : noneM m f = false) : (List.range 10).any (fun f => !usesM m.kind f && !noneM m f) = true :=
  List.any_eq_true.2 ⟨f, by simpa using hf, by simp [hu, hn]⟩
theorem bad_none {m : MT} (h : ∀ f, f < 10 → usesM m.kind f = false → noneM m f = true) : (List.range 10).any (fun f => !usesM m.kind f && !noneM m f) = false := by
  rw [List.any_eq_false]
  intro f hf
  have hf' : f < 10 := by simpa using hf
  cases hu : usesM m.kind f with
  | true => simp
  | false => simp [h f hf' hu]
theorem big_any {m : MT} {f : Nat} (hf : f < 10) (hu : usesM m.kind f = true) (hn : fitM m f = false) : (fieldsM m.kind).any (fun f => !fitM m f) = true :=
  List.any_eq_true.2 ⟨f, List.mem_filter.2 ⟨by simpa using hf, hu⟩, by simp [hn]⟩
theorem big_none {m : MT} (h : ∀ f, f < 10 → usesM m.kind f = true → fitM m f = true) : (fieldsM m.kind).any (fun f => !fitM m f) = false := by
  rw [List.any_eq_false]
  intro f hf
  obtain ⟨h1, h2⟩ := List.mem_filter.1 hf
  simp [h f (by simpa using h1) h2]
theorem meas10 {k : Nat} {x : Int} (h : k < 10) (e : x = ((k + 1 : Nat) : Int)) : (10 - intOf (Value.int .i64 x)).toNat < (10 - intOf (Value.int .i64 (k : Int))).toNat := by
  subst e
  show (10 - ((k + 1 : Nat) : Int)).toNat < (10 - (k : Int)).toNat
  omega
theorem name_list {k : Int} (h1 : 1 ≤ k) (h9 : k ≤ 9) : ((nameM k).toList == []) = false := by
  rcases kinds h1 h9 with rfl | rfl | rfl | rfl | rfl | rfl | rfl | rfl | rfl <;> decide +kernel
theorem below_succ {k : Nat} {P : Nat → Prop} (h : ∀ f, f < k → P f) (hk : P k) : ∀ f, f < k + 1 → P f := fun f hf => by
  by_cases e : f = k
  · exact e ▸ hk
  · exact h f (by omega)
set_option maxHeartbeats 4000000 in
theorem mbytes_calls (a : MA) (m : MT) (w : World) (hm : MC w a m) (hwf : MWf m) :
    Calls Try.prog 10 #[mV a m] w fun e w' => ∃ v, e = .returned (.tuple #[v, .int .i64 (bytesME m)]) ∧ Kd.R (Kd.int .u8) 5 w' w.heap.size (fun _ => True) v (bytesMV m) ∧ Below w.heap.size w w' := by
  have HM := Lib.hid hm
  have HWF := Lib.hid hwf
  obtain ⟨C, hC⟩ : ∃ C, (mcells a m).toArray = C := ⟨_, rfl⟩
  have hV1 : mV a m = .agg C := by rw [mV, hC]
  rw [hV1]
  have hC0 : C[0]? = some (.int .i64 m.kind) := by rw [← hC]; rfl
  obtain ⟨W1, hW1⟩ : ∃ W1, w.alloc (.cells C 33) = W1 := ⟨_, rfl⟩
  have HB1 : Hid (Below w.heap.size w W1) := Lib.hid (by rw [← hW1]; exact below_alloc (Below.refl _ _) _)
  have HBOX : Hid (MBox W1 w.heap.size a m) := Lib.hid ⟨by rw [← hW1, hC]; simpa using heap_alloc_new w _, hwf.stop.1, hwf.block.1⟩
  have HW1 := Lib.hid hW1
  obtain ⟨bx, hbx⟩ : ∃ k, w.heap.size = k := ⟨_, rfl⟩
  have HBX := Lib.hid hbx
  rw [hbx] at HBOX
  have HCELL := Lib.hid (show ∀ W, Below W1.heap.size W1 W → MBox W bx a m ∧ W.cell? ⟨bx, 0, none⟩ = some (.int .i64 m.kind) from fun W hb => by
    have h := HBOX.out.below hb
    exact ⟨h, h.cells.1⟩)
  have HMB := Lib.hid (show ∀ W, Below W1.heap.size W1 W → MC W a m from fun W hb => by
    exact hm.below (HB1.out.trans (Below.mono hb HB1.out.size)))
  obtain ⟨E, hE⟩ : ∃ E, bytesME m = E := ⟨_, rfl⟩
  obtain ⟨V, hV⟩ : ∃ V, bytesMV m = V := ⟨_, rfl⟩
  rw [hE, hV]
  have HE := Lib.hid hE
  have HVV : Hid (V = if E = 0 then digs 1 m.kind.toNat ++ bodyM m else []) := Lib.hid (by rw [← hV, ← hE]; rfl)
  clear hm hwf hC hV1 hW1 hE hV
  go_enter Try.func10, Try.ntmps10
  go_wp2_with fail
  rw [HW1.out]
  clear hC0
  refine (name_calls m.kind _).mono ?_
  rintro e w1 ⟨rfl, hb⟩
  have HB2 := Lib.hid hb
  clear hb
  by_cases hk : m.kind < 1 ∨ 9 < m.kind
  · have hnm := name_none hk
    rw [hnm]
    have hE : E = 3 := by rw [← HE.out]; unfold bytesME; rw [if_pos hk]
    have hV : V = [] := by rw [HVV.out, hE]; rfl
    have HBF := Lib.hid (HB1.out.trans (Below.mono HB2.out HB1.out.size))
    clear hnm hk HE HVV
    subst hE
    subst hV
    go_wp2_with fail
    go_ret2
    exact ⟨_, rfl, Kd.R_nil _ _ _ _ _, HBF.out⟩
  have hnm := name_list (k := m.kind) (by omega) (by omega)
  have HK1 := Lib.hid (show 1 ≤ m.kind by omega)
  have HK9 := Lib.hid (show m.kind ≤ 9 by omega)
  obtain ⟨nm, hnmm⟩ : ∃ s, nameM m.kind = s := ⟨_, rfl⟩
  rw [hnmm] at hnm ⊢
  clear hk hnmm
  go_wp2_with fail
  go_loopw [11] (fun i wr => ∃ k : Nat, k ≤ 10 ∧ i = .int .i64 (k : Int) ∧ Hid (Below W1.heap.size W1 wr ∧ ∀ f, f < k → usesM m.kind f = false → noneM m f = true)) (fun i _ => (10 - intOf i).toNat)
  case atStart => exact ⟨0, by omega, rfl, Lib.hid ⟨HB2.out, fun f hf => by omega⟩⟩
  case round =>
    obtain ⟨k, hk, rfl, H⟩ := hrel
    by_cases hlt : k < 10
    · have b1 : decide ((k : Int) < 10) = true := decide_eq_true (by omega)
      obtain ⟨hb, hall⟩ := H.out
      obtain ⟨hbox, k0⟩ := HCELL.out wr hb
      have HB := Lib.hid hb
      have HALL := Lib.hid hall
      have wk : wrap64 ((k : Int) + 1) = ((k + 1 : Nat) : Int) := (wrap64_id (by omega) (by omega)).trans (by omega)
      have HLT := Lib.hid hlt
      clear hb hall hbox H hk hlt
      go_wp2_with fail
      with_reducible refine (uses_calls m.kind k _ HK1.out HK9.out HLT.out).mono ?_
      rintro e w2 ⟨rfl, hb2⟩
      have HBX2 := Lib.hid (HB.out.trans (Below.mono hb2 HB.out.size))
      clear hb2 k0
      obtain ⟨u, hu⟩ : ∃ u, usesM m.kind k = u := ⟨_, rfl⟩
      have HU := Lib.hid hu
      rw [hu]
      clear hu
      cases u with
      | true =>
        go_wp2_with fail
        go_roundw
        case rel => exact ⟨k + 1, by have := HLT.out; omega, by rw [wk], Lib.hid ⟨HBX2.out, below_succ HALL.out (fun h => by rw [HU.out] at h; cases h)⟩⟩
        case measure => exact meas10 HLT.out wk
      | false =>
        have hbox := (HCELL.out w2 HBX2.out).1
        have HN := Lib.hid (none_calls k hbox HLT.out)
        clear hbox
        go_wp2_with fail
        refine HN.out.mono ?_
        rintro e w3 ⟨rfl, hb3⟩
        have HB3 := Lib.hid (HBX2.out.trans (Below.mono hb3 HBX2.out.size))
        clear hb3
        obtain ⟨u, hu⟩ : ∃ u, noneM m k = u := ⟨_, rfl⟩
        have HNN := Lib.hid hu
        rw [hu]
        clear hu
        cases u with
        | true =>
          go_wp2_with fail
          go_roundw
          case rel => exact ⟨k + 1, by have := HLT.out; omega, by rw [wk], Lib.hid ⟨HB3.out, below_succ HALL.out (fun _ => HNN.out)⟩⟩
          case measure => exact meas10 HLT.out wk
        | false =>
          have hE : E = 3 := by rw [← HE.out]; unfold bytesME; rw [if_neg (by have := HK1.out; have := HK9.out; omega), if_pos (bad_any HLT.out HU.out HNN.out)]
          have hV : V = [] := by rw [HVV.out, hE]; rfl
          have HBF := Lib.hid (HB1.out.trans (Below.mono HB3.out HB1.out.size))
          clear HE HVV
          subst hE
          subst hV
          go_wp2_with fail
          go_ret2
          exact ⟨_, rfl, Kd.R_nil _ _ _ _ _, HBF.out⟩
    · obtain ⟨wq, rfl⟩ : ∃ x, x = wr := ⟨wr, rfl⟩
      have hk10 : k = 10 := by omega
      subst hk10
      obtain ⟨hb, hall⟩ := H.out
      have HB := Lib.hid hb
      have HNB := Lib.hid (bad_none hall)
      clear hb hall H hlt hk
      go_wp2_with fail
      refine (cnew_calls _).mono ?_
      rintro e w2 ⟨rfl, hw2, hb2⟩
      have HW2 := Lib.hid hw2
      have HB2' := Lib.hid hb2
      have HBX2 := Lib.hid (HB.out.trans (Below.mono hb2 HB.out.size))
      obtain ⟨hbox, k0⟩ := HCELL.out w2 HBX2.out
      have HM0 := Lib.hid (HMB.out wq HB.out)
      have HBXB := Lib.hid (show bx < wq.heap.size from Nat.lt_of_lt_of_le (blk_lt HBOX.out.blk) HB.out.size)
      have HSZ := Lib.hid HB.out.size
      have HCELLB := Lib.hid (show ∀ W, Below wq.heap.size wq W → MBox W bx a m ∧ W.cell? ⟨bx, 0, none⟩ = some (.int .i64 m.kind) from fun W hb' => HCELL.out W (HB.out.trans (Below.mono hb' HB.out.size)))
      obtain ⟨q, hq⟩ : ∃ q, m.kind = q := ⟨_, rfl⟩
      have hu : q % 18446744073709551616 = q := by have := HK1.out; have := HK9.out; omega
      have hu' : IntKind.u64.wrap q = q := u64w_id (by have := HK1.out; omega) (by have := HK9.out; omega)
      rw [hq] at k0 ⊢
      have HQ := Lib.hid hq
      clear hw2 hb2 hbox hq
      go_wp2_with fail
      with_reducible refine (cnum_int q 1 (by have := HK1.out; rw [HQ.out] at this; omega) HW2.out (by simp)).mono ?_
      rintro e w3 ⟨rfl, hw3, hb3, _⟩
      have HW3 := Lib.hid (show IsC w3 wq.heap.size wq.heap.size (accM m 0) by rw [show accM m 0 = [] ++ digs (wid 1) q.toNat from by rw [← HQ.out]; rfl]; exact hw3)
      have HB3 := Lib.hid (HB2'.out.trans hb3)
      clear hw3 hb3 k0 hu hu'
      go_wp2
      go_loopw [31] (fun i wl => ∃ k : Nat, k ≤ 10 ∧ i = .int .i64 (k : Int) ∧ Hid (IsC wl wq.heap.size wq.heap.size (accM m k) ∧ Below wq.heap.size wq wl ∧ ∀ f, f < k → usesM m.kind f = true → fitM m f = true)) (fun i _ => (10 - intOf i).toNat)
      case atStart => exact ⟨0, by omega, rfl, Lib.hid ⟨HW3.out, HB3.out, fun f hf => by omega⟩⟩
      case round =>
        obtain ⟨k, hk, rfl, H⟩ := hrel
        by_cases hlt : k < 10
        · have b1 : decide ((k : Int) < 10) = true := decide_eq_true (by omega)
          obtain ⟨hw, hb, hall⟩ := H.out
          obtain ⟨hbox, k0⟩ := HCELLB.out wr hb
          rw [HQ.out] at k0
          have HW := Lib.hid hw
          have HBL := Lib.hid hb
          have HALL := Lib.hid hall
          have wk : wrap64 ((k : Int) + 1) = ((k + 1 : Nat) : Int) := (wrap64_id (by omega) (by omega)).trans (by omega)
          have HLT := Lib.hid hlt
          clear hw hb hall hbox H hk hlt
          go_wp2_with fail
          with_reducible refine (uses_calls q k _ (by have := HK1.out; rw [HQ.out] at this; exact this) (by have := HK9.out; rw [HQ.out] at this; exact this) HLT.out).mono ?_
          rintro e w4 ⟨rfl, hb4⟩
          have HB4 := Lib.hid (HBL.out.trans (Below.mono hb4 HBL.out.size))
          have HW4 := Lib.hid (HW.out.below hb4)
          clear hb4 k0
          obtain ⟨u, hu⟩ : ∃ u, usesM q k = u := ⟨_, rfl⟩
          have HU : Hid (usesM m.kind k = u) := Lib.hid (by rw [HQ.out]; exact hu)
          rw [hu]
          clear hu
          cases u with
          | false =>
            go_wp2_with fail
            go_roundw
            case rel => exact ⟨k + 1, by have := HLT.out; omega, by rw [wk], Lib.hid ⟨by rw [acc_skip HU.out]; exact HW4.out, HB4.out, below_succ HALL.out (fun h => by rw [HU.out] at h; cases h)⟩⟩
            case measure => exact meas10 HLT.out wk
          | true =>
            have hbox := (HCELLB.out w4 HB4.out).1
            have HF := Lib.hid (fits_calls k hbox (HMB.out w4 (HB.out.trans (Below.mono HB4.out HB.out.size))) HLT.out)
            clear hbox
            go_wp2_with fail
            refine HF.out.mono ?_
            rintro e w5 ⟨rfl, hb5⟩
            have HB5 := Lib.hid (HB4.out.trans (Below.mono hb5 HB4.out.size))
            have HW5 := Lib.hid (HW4.out.below hb5)
            clear hb5
            obtain ⟨u, hu⟩ : ∃ u, fitM m k = u := ⟨_, rfl⟩
            have HFF := Lib.hid hu
            rw [hu]
            clear hu
            cases u with
            | false =>
              have hE : E = 4 := by rw [← HE.out]; unfold bytesME; rw [if_neg (by have := HK1.out; have := HK9.out; omega), HNB.out, if_neg (by decide), if_pos (big_any HLT.out HU.out HFF.out)]
              have hV : V = [] := by rw [HVV.out, hE]; rfl
              have HBF := Lib.hid (HB1.out.trans (Below.mono (HB.out.trans (Below.mono HB5.out HB.out.size)) HB1.out.size))
              clear HE HVV
              subst hE
              subst hV
              go_wp2_with fail
              go_ret2
              exact ⟨_, rfl, Kd.R_nil _ _ _ _ _, HBF.out⟩
            | true =>
              have hlen := acc_len HWF.out k HALL.out
              have hmax := sum_max k (by have := HLT.out; omega)
              have HP := Lib.hid (put_calls k HLT.out rfl HB5.out HW5.out HBXB.out (HCELLB.out w5 HB5.out).1 HM0.out HWF.out HFF.out (by omega))
              clear hlen hmax
              go_wp2_with fail
              refine HP.out.mono ?_
              rintro e w6 ⟨rfl, hw6, hb6, _⟩
              have HW6 := Lib.hid hw6
              have HB6 := Lib.hid (HB5.out.trans hb6)
              clear hw6 hb6 HP
              go_wp2_with fail
              go_roundw
              case rel => exact ⟨k + 1, by have := HLT.out; omega, by rw [wk], Lib.hid ⟨by rw [acc_put HU.out]; exact HW6.out, HB6.out, below_succ HALL.out (fun _ => HFF.out)⟩⟩
              case measure => exact meas10 HLT.out wk
        · have hk10 : k = 10 := by omega
          subst hk10
          obtain ⟨hw, hb, hall⟩ := H.out
          have hE : E = 0 := by rw [← HE.out]; unfold bytesME; rw [if_neg (by have := HK1.out; have := HK9.out; omega), HNB.out, if_neg (by decide), big_none hall, if_neg (by decide)]
          have hV : V = accM m 10 := by rw [HVV.out, if_pos hE]; rfl
          have hlen := acc_len HWF.out 10 hall
          have hmax := sum_max 10 (by omega)
          have HBY := Lib.hid (cbytes_calls hw (by omega))
          have HBL := Lib.hid hb
          clear hw hb hall hlen hmax H hlt hk HE HVV
          subst hE
          subst hV
          go_wp2_with fail
          refine HBY.out.mono ?_
          rintro e w6 ⟨v, rfl, hv6, hb6⟩
          have HV6 := Lib.hid hv6
          have HBW := Lib.hid (HB1.out.trans (Below.mono (HB.out.trans (Below.mono HBL.out HB.out.size)) HB1.out.size))
          have HB6 := Lib.hid (HBW.out.trans (Below.mono hb6 HBW.out.size))
          clear hv6 hb6 HBY
          go_wp2_with fail
          go_ret2
          exact ⟨v, rfl, Kd.R_lower HV6.out HBW.out.size, HB6.out⟩
end Go.Proofs.Ytfcmdhimlfoofaa.Hand


/- The document's example, and that just nine kinds have names: walked (awake, MsgNames). -/
namespace Go.Proofs.Ytfcmdhimlfoofaa.Hand
open Go Go.RowKit Go.Proofs.Ytfcmdhimlfoofaa.Plain Go.Proofs.Ytfcmdhimlfoofaa.PAll Go.Proofs.YtfcmdhimlfoofaaW.PrintWords Go.Proofs.YtfcmdhimlfoofaaW.PrintLast Go.Proofs.YtfcmdhimlfoofaaW.PrintMore
set_option linter.unusedVariables false
set_option linter.unusedSimpArgs false
set_option maxRecDepth 100000
attribute [local go_sem ↓] Go.wp_at_zero Go.wp_at_succ
def nilMA : MA := ⟨none, 0, none, 0, none, 0, none, 0, none, 0⟩
theorem built_bare1 (k : Int) : Try.prog.built 33 [(0, .int .i64 k)] = some (mcells nilMA (bare k 0)).toArray := by kernel_rfl
theorem built_bare2 (k n : Int) : Try.prog.built 33 [(0, .int .i64 k), (8, .int .u64 n)] = some (mcells nilMA (bare k n)).toArray := by kernel_rfl
theorem z32m_bytes : z32m.length = 32 ∧ ∀ x ∈ z32m, 0 ≤ x ∧ x < 256 := by
  refine ⟨by simp [z32m], fun x hx => ?_⟩
  have := List.eq_of_mem_replicate hx
  omega
theorem bare_wf {k n : Int} (h0 : 0 ≤ n) (h1 : n < 18446744073709551616) : MWf (bare k n) :=
  ⟨by simp [bare], z32m_bytes, by simp [bare], z32m_bytes, by simp [bare], by simp [bare], by simp [bare], h0, h1⟩
theorem bare_MC (w : World) (k n : Int) : MC w nilMA (bare k n) :=
  ⟨Kd.C_nil _ _, Nat.le_refl _, Kd.C_nil _ _, Nat.le_refl _, Kd.C_nil _ _, Nat.le_refl _, Kd.C_nil _ _, Nat.le_refl _, Kd.C_nil _ _, Nat.le_refl _⟩
theorem awake16_e : bytesME (bare 7 5) = 0 := by decide +kernel
theorem awake16_v : (strOfNums (bytesMV (bare 7 5))).toList = ([7, 5, 0, 0, 0, 0, 0, 0, 0] : List UInt8) := by decide +kernel
set_option maxHeartbeats 1000000 in
theorem awake16_calls (w : World) : Calls Try.prog 11 #[] w fun e w' => e = .returned (.bool true) ∧ Below w.heap.size w w' := by
  have HT := Lib.hid (mbytes_calls nilMA (bare 7 5) w (bare_MC _ _ _) (bare_wf (by decide) (by decide)))
  rw [awake16_e] at HT
  have hb := built_bare2 7 5
  obtain ⟨C, hC⟩ : ∃ C, (mcells nilMA (bare 7 5)).toArray = C := ⟨_, rfl⟩
  rw [mV, hC] at HT
  rw [hC] at hb
  have HBU := Lib.hid hb
  clear hb hC
  go_enter Try.func11, Try.ntmps11
  go_wp2_with ((with_reducible show wpList _ _ _ (Oper.mk _ (Op.build _ _) _ _ _ _ :: _) _ _); (go_loud (refine wpl_build rfl 33 _ rfl #[(0, .int .i64 7), (8, .int .u64 5)] (by simp [Act.eval]) C HBU.out ?_)))
  refine HT.out.mono ?_
  rintro e w1 ⟨v, rfl, hv, hb⟩
  have hcv := own_string (P := Try.prog) Try.underlying23 Try.underlying5 Try.underlying9 (Kd.own_of_R hv)
  have ht := beq_iff_eq.mpr awake16_v
  generalize hs : strOfNums (bytesMV (bare 7 5)) = s at hcv ht
  have HB := Lib.hid hb
  clear hb hs hv HT
  go_wp2
  go_ret
  exact ⟨rfl, HB.out⟩
theorem ruses_list {k : Int} (h1 : 1 ≤ k) (h9 : k ≤ 9) : ((rusesM k).toList == []) = false := by
  rcases kinds h1 h9 with rfl | rfl | rfl | rfl | rfl | rfl | rfl | rfl | rfl <;> decide +kernel
theorem name_dec (a b : Int) (h1 : 1 ≤ a) (h9 : a ≤ 9) : ((nameM a).toList == (nameM b).toList) = (a == b) := by
  by_cases e : a = b
  · subst e
    simp
  · have : (a == b) = false := by simpa using e
    rw [this]
    by_cases hb : b < 1 ∨ 9 < b
    · rw [name_none hb, show (⟨#[]⟩ : ByteArray).toList = [] from by decide +kernel]
      exact name_list h1 h9
    · rcases kinds h1 h9 with rfl | rfl | rfl | rfl | rfl | rfl | rfl | rfl | rfl <;>
        rcases kinds (k := b) (by omega) (by omega) with rfl | rfl | rfl | rfl | rfl | rfl | rfl | rfl | rfl <;>
        first | exact absurd rfl e | decide +kernel
set_option maxHeartbeats 2000000 in
theorem names_calls (a b : Int) (w : World) : Calls Try.prog 3 #[.int .i64 a, .int .i64 b] w fun e w' => e = .returned (.bool true) ∧ Below w.heap.size w w' := by
  have HT := Lib.hid (fun W : World => mbytes_calls nilMA (bare a 0) W (bare_MC _ _ _) (bare_wf (by decide) (by decide)))
  have hb := built_bare1 a
  obtain ⟨C, hC⟩ : ∃ C, (mcells nilMA (bare a 0)).toArray = C := ⟨_, rfl⟩
  have hmv : mV nilMA (bare a 0) = .agg C := by rw [mV, hC]
  rw [hmv] at HT
  rw [hC] at hb
  have HBU := Lib.hid hb
  have hE := bare_bytes a
  obtain ⟨E, hEE⟩ : ∃ E, bytesME (bare a 0) = E := ⟨_, rfl⟩
  rw [hEE] at hE HT
  obtain ⟨V, hVV⟩ : ∃ V, bytesMV (bare a 0) = V := ⟨_, rfl⟩
  rw [hVV] at HT
  have HN1 := Lib.hid (fun W => name_calls a W)
  have HN2 := Lib.hid (fun W => name_calls b W)
  have HR1 := Lib.hid (fun W => ruses_calls a W)
  by_cases hk : a < 1 ∨ 9 < a
  · rw [if_pos hk] at hE
    have h1 := name_none hk
    have h2 := ruses_none hk
    rw [h1] at HN1
    rw [h2] at HR1
    subst hE
    obtain ⟨t, ht⟩ : ∃ t, nameM b = t := ⟨_, rfl⟩
    rw [ht] at HN2
    obtain ⟨y, hy⟩ : ∃ y, ([] == t.toList) = y := ⟨_, rfl⟩
    obtain ⟨z, hz⟩ : ∃ z, (a == b) = z := ⟨_, rfl⟩
    clear hb hC hmv hEE hVV hk h1 h2 ht
    go_enter Try.func3, Try.ntmps3
    go_wp2_with fail
    refine (HN1.out _).mono ?_
    rintro e w1 ⟨rfl, hb1⟩
    have HB1 := Lib.hid hb1
    clear hb1
    go_wp2_with fail
    refine (HN2.out _).mono ?_
    rintro e w2 ⟨rfl, hb2⟩
    have HB2 := Lib.hid (HB1.out.trans (Below.mono hb2 HB1.out.size))
    clear hb2
    go_wp2_with fail
    refine (HR1.out _).mono ?_
    rintro e w3 ⟨rfl, hb3⟩
    have HB3 := Lib.hid (HB2.out.trans (Below.mono hb3 HB2.out.size))
    clear hb3
    cases y <;> cases z
    all_goals
      go_wp2_with ((with_reducible show wpList _ _ _ (Oper.mk _ (Op.build _ _) _ _ _ _ :: _) _ _); (go_loud (refine wpl_build rfl 33 _ rfl #[(0, .int .i64 a)] (by simp [Act.eval]) C HBU.out ?_)))
      refine (HT.out _).mono ?_
      rintro e w4 ⟨v, rfl, _, hb4⟩
      have HB4 := Lib.hid (HB3.out.trans (Below.mono hb4 HB3.out.size))
      clear hb4
      go_wp2_with fail
      refine (awake16_calls _).mono ?_
      rintro e w5 ⟨rfl, hb5⟩
      have HB5 := Lib.hid (HB4.out.trans (Below.mono hb5 HB4.out.size))
      clear hb5
      go_wp2_with fail
      go_ret
      exact ⟨rfl, HB5.out⟩
  · rw [if_neg hk] at hE
    have h1 := name_list (k := a) (by omega) (by omega)
    have h2 := ruses_list (k := a) (by omega) (by omega)
    have h3 := name_dec a b (by omega) (by omega)
    obtain ⟨s, hs⟩ : ∃ s, nameM a = s := ⟨_, rfl⟩
    obtain ⟨t, ht⟩ : ∃ t, nameM b = t := ⟨_, rfl⟩
    obtain ⟨r, hr⟩ : ∃ r, rusesM a = r := ⟨_, rfl⟩
    rw [hs] at HN1 h1 h3
    rw [ht] at HN2 h3
    rw [hr] at HR1 h2
    subst hE
    obtain ⟨z, hz⟩ : ∃ z, (a == b) = z := ⟨_, rfl⟩
    rw [hz] at h3
    clear hb hC hmv hEE hVV hk hs ht hr
    go_enter Try.func3, Try.ntmps3
    go_wp2_with fail
    refine (HN1.out _).mono ?_
    rintro e w1 ⟨rfl, hb1⟩
    have HB1 := Lib.hid hb1
    clear hb1
    go_wp2_with fail
    refine (HN2.out _).mono ?_
    rintro e w2 ⟨rfl, hb2⟩
    have HB2 := Lib.hid (HB1.out.trans (Below.mono hb2 HB1.out.size))
    clear hb2
    go_wp2_with fail
    refine (HR1.out _).mono ?_
    rintro e w3 ⟨rfl, hb3⟩
    have HB3 := Lib.hid (HB2.out.trans (Below.mono hb3 HB2.out.size))
    clear hb3
    cases z
    all_goals
      go_wp2_with ((with_reducible show wpList _ _ _ (Oper.mk _ (Op.build _ _) _ _ _ _ :: _) _ _); (go_loud (refine wpl_build rfl 33 _ rfl #[(0, .int .i64 a)] (by simp [Act.eval]) C HBU.out ?_)))
      refine (HT.out _).mono ?_
      rintro e w4 ⟨v, rfl, _, hb4⟩
      have HB4 := Lib.hid (HB3.out.trans (Below.mono hb4 HB3.out.size))
      clear hb4
      go_wp2_with fail
      refine (awake16_calls _).mono ?_
      rintro e w5 ⟨rfl, hb5⟩
      have HB5 := Lib.hid (HB4.out.trans (Below.mono hb5 HB4.out.size))
      clear hb5
      go_wp2_with fail
      go_ret
      exact ⟨rfl, HB5.out⟩
end Go.Proofs.Ytfcmdhimlfoofaa.Hand

