/- A transaction of 64 bytes: there is none. -/
import Derived.Test.YtpjkhecefppamaaProg
import Derived.Below
import Derived.Deep.Draws
import Derived.Deep.AppendLies
import Derived.Maps.AppendAt
import Derived.OwnWalk
import Derived.Laws.BytesArg
import Derived.Laws.MakeOwn
import Derived.Laws.OwnMore
import Derived.Deep.OwnRows
import Derived.Tactics
import Derived.Lib.ConvBytes
import Derived.Laws.Slices
import Derived.WalkKit
import Derived.KernelRfl
import Derived.RowKit3
import Derived.Deep.LoopGhost
import Derived.Deep.QuietTactic
import Derived.BigQuiet
import Derived.WideLaws
import Derived.Deep.DeepCutAuto
import Derived.Deep.CutBlock
import Derived.Deep.RegionHeld3
import Derived.Laws.Rows
import Derived.Lib.AppendStr
import Derived.ArgAppend
import Derived.Laws.IdiomCopy
import Derived.OrdersHeld
import Derived.Laws.BitsLemmas
import Derived.RowKit
import Derived.StillTailTactics
import Derived.Test.YtpjkhecefppamaaWWords
import Derived.Test.YtpjkhecefppamaaWLast
import Derived.Test.YtpjkhecefppamaaWMore
import Derived.Lib.Hide
import Derived.LaidEql
import Derived.Outline
import Derived.Test.YtpjkhecefppamaaTxnPlain
import Derived.Test.YtpjkhecefppamaaReader2
namespace Go.Proofs.Ytpjkhecefppamaa.Hand
open Go Go.RowKit Go.Proofs.Ytpjkhecefppamaa.Plain Go.Proofs.Ytpjkhecefppamaa.PAll Go.Proofs.YtpjkhecefppamaaW.PrintWords Go.Proofs.YtpjkhecefppamaaW.PrintLast Go.Proofs.YtpjkhecefppamaaW.PrintMore
set_option linter.unusedVariables false
set_option linter.unusedSimpArgs false
set_option maxHeartbeats 1000000 in
set_option maxRecDepth 100000 in
theorem tparse64 (A : Option Addr) (c : Nat) (bs : List Int) (w : World) (h64 : bs.length = 64) (hr : Kd.C (Kd.int .u8) w A 64 bs) (hc : 64 ≤ c) (hb : ∀ x ∈ bs, 0 ≤ x ∧ x < 256) :
    Calls Try.prog 13 #[.slice A 64 c] w fun e w' => e = .returned (.tuple #[.agg #[.int .u64 0, .slice none 0 0], .int .i64 3]) ∧ Below w.heap.size w w' := by
  have HR := Lib.hid (h64.symm ▸ hr : Kd.C (Kd.int .u8) w A bs.length bs)
  have HC := Lib.hid (h64.symm ▸ hc : bs.length ≤ c)
  have H64 := Lib.hid h64
  have HBY := Lib.hid hb
  clear hr hc hb
  go_enter Try.func13, Try.ntmps13
  go_wp2_with fail
  have HB1 := Lib.hid (below_alloc (Below.refl w.heap.size w) (.cells #[.int .u64 0, .slice none 0 0] 25))
  have HK1 := Lib.hid (show (w.alloc (.cells #[.int .u64 0, .slice none 0 0] 25)).heap[w.heap.size]? = some (.cells #[.int .u64 0, .slice none 0 0] 25 (0, 0)) by simpa using heap_alloc_new w _)
  refine (cof_calls A _ c bs _ h64.symm (Kd.C_below HR.out HB1.out) HC.out (by omega)).mono ?_
  rintro e w1 ⟨g, rfl, hg1, hp1, hb1⟩
  have HP := Lib.hid hp1
  have HB2 := Lib.hid (HB1.out.trans (Below.mono hb1 HB1.out.size))
  have HK2 := Lib.hid ((hb1.block w.heap.size (blk_lt HK1.out)).trans HK1.out)
  have HNE := Lib.hid (show w.heap.size ≠ g by simp at hg1; omega)
  have HSZ := Lib.hid (show w.heap.size ≤ (w.alloc (.cells #[.int .u64 0, .slice none 0 0] 25)).heap.size from HB1.out.size)
  clear hp1 hb1 hg1 HB1 HK1
  go_wp2_with fail
  refine (cnumr_calls (p := 0) HP.out HBY.out (Nat.zero_le _) (by have := H64.out; omega) 1).mono ?_
  rintro e w2 ⟨rfl, hp2, hk2⟩
  have HK3 := Lib.hid (hk2.2.blk HK2.out HNE.out (by simp))
  have HB3 := Lib.hid (HB2.out.trans (Below.mono hk2.1 HSZ.out))
  clear hp2 hk2 HK2 HB2
  have c0 := blk_cell HK3.out 0
  have c1 := blk_cell HK3.out 1
  have f0 := blk_frozen HK3.out 0
  have f1 := blk_frozen HK3.out 1
  simp only [List.getElem?_toArray, List.getElem?_cons_zero, List.getElem?_cons_succ] at c0 c1
  obtain ⟨q, hq⟩ : ∃ q, (numR bs 0 0 1).1 = q := ⟨_, rfl⟩
  rw [hq]
  clear hq h64
  have HR4 := Lib.hid (blk_set (blk_set HK3.out 0 (.int .u64 0)) 1 (.slice none 0 0))
  have HB4 := Lib.hid ((HB3.out.setCell (p := ⟨w.heap.size, 0, none⟩) (Nat.le_refl _) (.int .u64 0)).setCell (p := ⟨w.heap.size, 1, none⟩) (Nat.le_refl _) (.slice none 0 0))
  go_wp2_with fail
  exact bodyPost_ret (results_ct rfl _ _ w.heap.size 25 #[.int .u64 0, .slice none 0 0] (0, 0) _ rfl HR4.out Try.underlying25 rfl (by kernel_rfl)) rfl ⟨rfl, HB4.out⟩
end Go.Proofs.Ytpjkhecefppamaa.Hand
