/- Several texts in one. -/
import Derived.Test.YtfcmdhimlfoofaaProg
import Derived.Below
import Derived.Deep.Draws
import Derived.Deep.AppendLies
import Derived.Maps.AppendAt
import Derived.OwnWalk
import Derived.Laws.BytesArg
import Derived.Laws.MakeOwn
import Derived.Laws.OwnMore
import Derived.Deep.OwnRows
import Derived.Tactics
import Derived.Lib.ConvBytes
import Derived.Laws.Slices
import Derived.WalkKit
import Derived.KernelRfl
import Derived.RowKit3
import Derived.Deep.LoopGhost
import Derived.Deep.QuietTactic
import Derived.BigQuiet
import Derived.WideLaws
import Derived.Deep.DeepCutAuto
import Derived.Deep.CutBlock
import Derived.Deep.RegionHeld3
import Derived.Laws.Rows
import Derived.Lib.AppendStr
import Derived.ArgAppend
import Derived.Laws.IdiomCopy
import Derived.OrdersHeld
import Derived.Laws.BitsLemmas
import Derived.RowKit
import Derived.StillTailTactics
import Derived.Test.YtfcmdhimlfoofaaWWords
import Derived.Test.YtfcmdhimlfoofaaWLast
import Derived.Test.YtfcmdhimlfoofaaWMore
import Derived.Lib.Hide
import Derived.Test.YtfcmdhimlfoofaaCells16
import Derived.Test.YtfcmdhimlfoofaaReader2
import Derived.Test.YtfcmdhimlfoofaaParse
import Derived.Outline
import Derived.Deep.MidRow
import Derived.Deep.WholeRow
import Derived.Deep.DrawnRows
import Derived.Test.YtfcmdhimlfoofaaPushKeep
import Derived.Test.YtfcmdhimlfoofaaRCells16
import Derived.LaidEql
/- What a message's parsing computes: plain. -/
namespace Go.Proofs.Ytfcmdhimlfoofaa.Hand
open Go Go.RowKit Go.Proofs.Ytfcmdhimlfoofaa.Plain Go.Proofs.Ytfcmdhimlfoofaa.PAll Go.Proofs.YtfcmdhimlfoofaaW.PrintWords Go.Proofs.YtfcmdhimlfoofaaW.PrintLast Go.Proofs.YtfcmdhimlfoofaaW.PrintMore
set_option linter.unusedVariables false
set_option linter.unusedSimpArgs false
/-- So many hashes from a place on. -/
def takenS (bs : List Int) (p : Nat) (x : Int) : Nat → List (List Int) × Nat × Int
  | 0 => ([], p, x)
  | k + 1 => ((takenS bs p x k).1 ++ [(hashR bs (takenS bs p x k).2.1 (takenS bs p x k).2.2).1], (hashR bs (takenS bs p x k).2.1 (takenS bs p x k).2.2).2)
def takenR (bs : List Int) (p : Nat) (x most : Int) : List (List Int) × Nat × Int := takenS bs (varR bs p x most).2.1 (varR bs p x most).2.2 (varR bs p x most).1.toNat
/-- A header of a text. -/
def headT (tb : List Int) : HT := if headE tb = 0 then ⟨(h1R tb).1 % 4294967296, (h2R tb).1, (h3R tb).1, (h4R tb).1 % 4294967296, (h5R tb).1 % 4294967296, (h6R tb).1 % 4294967296⟩ else ⟨0, z32, z32, 0, 0, 0⟩
def headsS (bs : List Int) (p : Nat) (x : Int) : Nat → List HT × Nat × Int
  | 0 => ([], p, x)
  | k + 1 => ((headsS bs p x k).1 ++ [headT (takeR bs (headsS bs p x k).2.1 (headsS bs p x k).2.2 80).1], (takeR bs (headsS bs p x k).2.1 (headsS bs p x k).2.2 80).2)
/-- An entry. -/
def e1R (bs : List Int) (p : Nat) (x : Int) : List Int × Nat × Int := textR bs p x 700
def e2R (bs : List Int) (p : Nat) (x : Int) : Int × Nat × Int := varR bs (e1R bs p x).2.1 (e1R bs p x).2.2 65536
def e3R (bs : List Int) (p : Nat) (x : Int) : Int × Nat × Int := varR bs (e2R bs p x).2.1 (e2R bs p x).2.2 65536
def e4R (bs : List Int) (p : Nat) (x : Int) : List (List Int) × Nat × Int := takenR bs (e3R bs p x).2.1 (e3R bs p x).2.2 16
def entR (bs : List Int) (p : Nat) (x : Int) : ET × Nat × Int := (⟨(e1R bs p x).1, (e2R bs p x).1, (e3R bs p x).1, (e4R bs p x).1⟩, (e4R bs p x).2)
def entsS (bs : List Int) (p : Nat) (x : Int) : Nat → List ET × Nat × Int
  | 0 => ([], p, x)
  | k + 1 => ((entsS bs p x k).1 ++ [(entR bs (entsS bs p x k).2.1 (entsS bs p x k).2.2).1], (entR bs (entsS bs p x k).2.1 (entsS bs p x k).2.2).2)
/-- A field is taken. -/
def takeF (bs : List Int) (f : Nat) (m : MT) (p : Nat) (x : Int) : MT × Nat × Int := match f with
  | 0 => ({ m with loc := (takenR bs p x 64).1 }, (takenR bs p x 64).2)
  | 1 => ({ m with stop := (hashR bs p x).1 }, (hashR bs p x).2)
  | 2 => ({ m with heads := (headsS bs (varR bs p x 2000).2.1 (varR bs p x 2000).2.2 (varR bs p x 2000).1.toNat).1 }, (headsS bs (varR bs p x 2000).2.1 (varR bs p x 2000).2.2 (varR bs p x 2000).1.toNat).2)
  | 3 => ({ m with of_ := (numR bs p x 1).1 }, (numR bs p x 1).2)
  | 4 => ({ m with block := (hashR bs p x).1 }, (hashR bs p x).2)
  | 5 => ({ m with data := (textR bs p x 2048).1 }, (textR bs p x 2048).2)
  | 6 => ({ m with item := (textR bs p x 64).1 }, (textR bs p x 64).2)
  | 7 => ({ m with ents := (entsS bs (varR bs p x 16).2.1 (varR bs p x 16).2.2 (varR bs p x 16).1.toNat).1 }, (entsS bs (varR bs p x 16).2.1 (varR bs p x 16).2.2 (varR bs p x 16).1.toNat).2)
  | 8 => ({ m with nonce := (numR bs p x 8).1 }, (numR bs p x 8).2)
  | _ => ({ m with code := (numR bs p x 1).1 }, (numR bs p x 1).2)
/-- The fields before the k-th are taken. -/
def foldP (bs : List Int) (m : MT) (p : Nat) (x : Int) : Nat → MT × Nat × Int
  | 0 => (m, p, x)
  | k + 1 => if usesM m.kind k = true ∧ (foldP bs m p x k).2.2 = 0 then takeF bs k (foldP bs m p x k).1 (foldP bs m p x k).2.1 (foldP bs m p x k).2.2 else foldP bs m p x k
def zMP : MT := ⟨0, [], z32m, [], z32m, [], [], [], 0, 0, 0⟩
def kindR (bs : List Int) : Int × Nat × Int := numR bs 0 0 1
def bodyP (bs : List Int) : MT × Nat × Int := foldP bs { zMP with kind := (kindR bs).1 } (kindR bs).2.1 (kindR bs).2.2 10
def parseM (bs : List Int) : MT × Int :=
  if 200000 < bs.length then (zMP, 4)
  else if (kindR bs).2.2 ≠ 0 then (zMP, (kindR bs).2.2)
  else if (kindR bs).1 < 1 ∨ 9 < (kindR bs).1 then (zMP, 3)
  else if endR bs (bodyP bs).2.1 (bodyP bs).2.2 ≠ 0 then (zMP, endR bs (bodyP bs).2.1 (bodyP bs).2.2)
  else ((bodyP bs).1, 0)
theorem takenS_le {bs : List Int} {p : Nat} (hp : p ≤ bs.length) (x : Int) : ∀ k, (takenS bs p x k).2.1 ≤ bs.length
  | 0 => hp
  | k + 1 => hashR_le (takenS_le hp x k) _
theorem takenS_len (bs : List Int) (p : Nat) (x : Int) : ∀ k, (takenS bs p x k).1.length = k
  | 0 => rfl
  | k + 1 => by simp [takenS, takenS_len bs p x k]
theorem takenR_le {bs : List Int} {p : Nat} (hp : p ≤ bs.length) (x most : Int) : (takenR bs p x most).2.1 ≤ bs.length := takenS_le (varR_le hp _ _) _ _
theorem takenS_32 (bs : List Int) (p : Nat) (x : Int) : ∀ k, ∀ h ∈ (takenS bs p x k).1, h.length = 32
  | 0 => by simp [takenS]
  | k + 1 => by
    intro h hh
    rcases List.mem_append.1 hh with hh | hh
    · exact takenS_32 bs p x k h hh
    · obtain rfl : h = _ := by simpa using hh
      exact hashR_len _ _ _
theorem headsS_le {bs : List Int} {p : Nat} (hp : p ≤ bs.length) (x : Int) : ∀ k, (headsS bs p x k).2.1 ≤ bs.length
  | 0 => hp
  | k + 1 => takeR_le (headsS_le hp x k) _ _
theorem headsS_len (bs : List Int) (p : Nat) (x : Int) : ∀ k, (headsS bs p x k).1.length = k
  | 0 => rfl
  | k + 1 => by simp [headsS, headsS_len bs p x k]
theorem e1R_le {bs : List Int} {p : Nat} (hp : p ≤ bs.length) (x : Int) : (e1R bs p x).2.1 ≤ bs.length := textR_le hp _ _
theorem e2R_le {bs : List Int} {p : Nat} (hp : p ≤ bs.length) (x : Int) : (e2R bs p x).2.1 ≤ bs.length := varR_le (e1R_le hp _) _ _
theorem e3R_le {bs : List Int} {p : Nat} (hp : p ≤ bs.length) (x : Int) : (e3R bs p x).2.1 ≤ bs.length := varR_le (e2R_le hp _) _ _
theorem e4R_le {bs : List Int} {p : Nat} (hp : p ≤ bs.length) (x : Int) : (e4R bs p x).2.1 ≤ bs.length := takenR_le (e3R_le hp _) _ _
theorem entsS_le {bs : List Int} {p : Nat} (hp : p ≤ bs.length) (x : Int) : ∀ k, (entsS bs p x k).2.1 ≤ bs.length
  | 0 => hp
  | k + 1 => e4R_le (entsS_le hp x k) _
theorem entsS_len (bs : List Int) (p : Nat) (x : Int) : ∀ k, (entsS bs p x k).1.length = k
  | 0 => rfl
  | k + 1 => by simp [entsS, entsS_len bs p x k]
theorem headT_len (tb : List Int) : (headT tb).p.length = 32 ∧ (headT tb).r.length = 32 := by
  unfold headT
  split
  · exact ⟨hashR_len _ _ _, hashR_len _ _ _⟩
  · exact ⟨rfl, rfl⟩
end Go.Proofs.Ytfcmdhimlfoofaa.Hand


/- A count of hashes, and these, are taken: walked (taken). -/
namespace Go.Proofs.Ytfcmdhimlfoofaa.Hand
open Go Go.RowKit Go.Proofs.Ytfcmdhimlfoofaa.Plain Go.Proofs.Ytfcmdhimlfoofaa.PAll Go.Proofs.YtfcmdhimlfoofaaW.PrintWords Go.Proofs.YtfcmdhimlfoofaaW.PrintLast Go.Proofs.YtfcmdhimlfoofaaW.PrintMore
set_option linter.unusedVariables false
set_option linter.unusedSimpArgs false
set_option maxRecDepth 100000
attribute [local go_sem ↓] Go.wp_at_zero Go.wp_at_succ
attribute [-go_sem] Instr.buildSlice
theorem infoH3 : (Try.prog.info? 28).map (fun i => (i.zero, i.size, i.bytes)) = some (some (.agg (nums .u8 (List.replicate 32 0)).toArray), 32, 32) := by kernel_rfl
theorem run_hash1 (p : List Int) (h : p.length = 32) (W : World) : (Instr.buildSlice 26 1 #[(0, .agg (nums .u8 p).toArray)]).run Try.prog W = .ok (.slice (some ⟨W.heap.size, 0, none⟩) 1 1) (W.alloc (.cells (nums .u8 p).toArray 28)) := by
  obtain ⟨x0, x1, x2, x3, x4, x5, x6, x7, x8, x9, x10, x11, x12, x13, x14, x15, x16, x17, x18, x19, x20, x21, x22, x23, x24, x25, x26, x27, x28, x29, x30, x31, rfl⟩ := list32 p h
  kernel_rfl
theorem u64_step {n k : Nat} (h : k < n) (hn : n < 1000000) : IntKind.u64.wrap ((k : Int) + 1) = ((k + 1 : Nat) : Int) ∧ ((k : Int) + 1) % 18446744073709551616 = ((k + 1 : Nat) : Int) := by
  refine ⟨?_, by omega⟩
  rw [u64w_id (by omega) (by omega)]
  omega
theorem meas_u {n k : Nat} {x : Int} (h : k < n) (e : x = ((k + 1 : Nat) : Int)) : n + 1 - (intOf (Value.int .u64 x)).toNat < n + 1 - (intOf (Value.int .u64 (k : Int))).toNat := by
  subst e
  show n + 1 - ((k + 1 : Nat) : Int).toNat < n + 1 - ((k : Nat) : Int).toNat
  omega
theorem keep_grown {w w1 w2 : World} {B g : Nat} (h : RKeep w w1 B g) (hb : Below w.heap.size w1 w2) (hB : B ≤ w.heap.size) : RKeep w w2 B g :=
  ⟨h.1.trans (Below.mono hb hB), by have := h.2.1; have := hb.size; omega, fun k hk hg hr => (hb.block k hk).trans (h.2.2 k hk hg hr)⟩
set_option maxHeartbeats 4000000 in
theorem taken_calls {w : World} {B g : Nat} {bs : List Int} {p : Nat} {x : Int} (h : IsR w B g bs (p : Int) x) (hb : ∀ y ∈ bs, 0 ≤ y ∧ y < 256) (hp : p ≤ bs.length) (hl : bs.length ≤ 100000000) (most : Int) (hm0 : 0 ≤ most) (hm : most ≤ 100000) :
    Calls Try.prog 53 #[.pointer (some ⟨g, 0, none⟩), .int .u64 most] w fun e w' => ∃ v, e = .returned v ∧ Kd.R kH 28 w' w.heap.size (fun k => k ≠ g) v (takenR bs p x most).1 ∧ IsR w' B g bs ((takenR bs p x most).2.1 : Nat) (takenR bs p x most).2.2 ∧ RKeep w w' B g := by
  have hu := varR_u64 hb p x (most := most) hm0
  have hvl := varR_le hp x most
  have HV := Lib.hid (cvarr_calls h hb hp hl most)
  unfold takenR
  obtain ⟨n, hn⟩ : ∃ n : Nat, (varR bs p x most).1 = (n : Int) := Int.eq_ofNat_of_zero_le hu.1
  obtain ⟨p1, hp1⟩ : ∃ q, (varR bs p x most).2.1 = q := ⟨_, rfl⟩
  obtain ⟨x1, hx1⟩ : ∃ q, (varR bs p x most).2.2 = q := ⟨_, rfl⟩
  rw [hn, hp1, hx1] at HV
  rw [hn, hp1, hx1, Int.toNat_natCast]
  rw [hn] at hu
  rw [hp1] at hvl
  have HN := Lib.hid (show n ≤ 100000 by omega)
  have HPL := Lib.hid hvl
  have HL := Lib.hid hl
  have HGL := Lib.hid h.lt
  have HBG := Lib.hid h.1
  clear h hb hp hl hm0 hm hu hvl hn hp1 hx1
  go_enter Try.func53, Try.ntmps53
  go_wp2_with fail
  refine HV.out.mono ?_
  rintro e w1 ⟨rfl, hr1, hk1⟩
  have HR1 := Lib.hid hr1
  have HK1 := Lib.hid hk1
  clear hr1 hk1 HV
  go_wp2_with fail
  go_loopw [5, 9] (fun v i wr => ∃ k : Nat, k ≤ n ∧ i = .int .u64 (k : Int) ∧ Hid (Kd.R kH 28 wr w.heap.size (fun k => k ≠ g) v (takenS bs p1 x1 k).1 ∧ IsR wr B g bs ((takenS bs p1 x1 k).2.1 : Nat) (takenS bs p1 x1 k).2.2 ∧ RKeep w wr B g)) (fun _ i _ => n + 1 - (intOf i).toNat)
  case atStart => exact ⟨0, Nat.zero_le _, rfl, Lib.hid ⟨Kd.R_nil _ _ _ _ _, HR1.out, HK1.out⟩⟩
  case round =>
    obtain ⟨k, hk, rfl, H⟩ := hrel
    obtain ⟨hR, hr, hkp⟩ := H.out
    by_cases hlt : k < n
    · have b1 : decide ((k : Int) < (n : Int)) = true := decide_eq_true (by omega)
      obtain ⟨wk, wk'⟩ := u64_step hlt (by have := HN.out; omega)
      have hle := takenS_le (x := x1) HPL.out k
      have HC := Lib.hid (chash_calls hr hle HL.out)
      have h32 := hashR_len bs (takenS bs p1 x1 k).2.1 (takenS bs p1 x1 k).2.2
      have hst : takenS bs p1 x1 (k + 1) = ((takenS bs p1 x1 k).1 ++ [(hashR bs (takenS bs p1 x1 k).2.1 (takenS bs p1 x1 k).2.2).1], (hashR bs (takenS bs p1 x1 k).2.1 (takenS bs p1 x1 k).2.2).2) := rfl
      have hln := takenS_len bs p1 x1 k
      obtain ⟨⟨L, q, y⟩, hS⟩ : ∃ s, takenS bs p1 x1 k = s := ⟨_, rfl⟩
      rw [hS] at hR hr HC h32 hst hln
      simp only at hR hr HC h32 hst hln
      obtain ⟨⟨hh, q2, y2⟩, hH⟩ : ∃ s, hashR bs q y = s := ⟨_, rfl⟩
      rw [hH] at HC h32 hst
      simp only at HC h32 hst
      have HST := Lib.hid hst
      have hbs := fun u => run_hash1 hh h32 u
      have hcm := fun (u : World) => kH_M (w := u) (base := w.heap.size) (ok := fun _ => False) h32
      have hone := nums_one .u8 hh
      unfold hashV at HC
      obtain ⟨P, hP⟩ : ∃ P, nums .u8 hh = P := ⟨_, rfl⟩
      rw [hP] at hbs hcm HC hone
      have HRV := Lib.hid hR
      have HKP := Lib.hid hkp
      have HCM := Lib.hid hcm
      have HTL := Lib.hid (show (L.length + 1) * 32 ≤ 140737488355328 by have := HN.out; omega)
      have HLT := Lib.hid hlt
      clear hR hr hkp hcm hone h32 hst hln hS hH hle hP H hk hlt
      go_wp2_with fail
      refine HC.out.mono ?_
      rintro e w2 ⟨rfl, hr2, hk2⟩
      have HR2 := Lib.hid hr2
      have HK2 := Lib.hid (HKP.out.trans hk2)
      have HRV2 := Lib.hid (Kd.R_keep HRV.out hk2.2 (fun _ h => h))
      have HSZ2 := Lib.hid (show w.heap.size ≤ w2.heap.size from HK2.out.2.1)
      clear hr2 hk2
      go_wp2_with ((with_reducible refine gate_builtin (b := .append) (xs := #[.tmp 11, .tmp 14]) rfl ?_); at_builtin; refine Kd.R_append kH (w0 := w2) w.heap.size rfl (.tmp 11) (.tmp 14) 26 28 (.agg (nums .u8 (List.replicate 32 0)).toArray) 32 rfl Try.underlying26 infoH3 rfl (by decide) (by decide) _ L hh P (fun k => k ≠ g) (fun _ => False) rfl (by first | (go_simp; done) | (go_simp; rfl)) (HCM.out _) (fun _ h => h.elim) (fun k hk => by have := HGL.out; have := HSZ2.out; omega) HRV2.out (Below.refl _ _) HSZ2.out HTL.out ?_; intro v4 w4 ho hb hg hat; have HR4 := Lib.hid ho; have HI4 := Lib.hid (HR2.out.below hb HGL.out); have HK4 := Lib.hid (keep_grown HK2.out hb (by have := HGL.out; have := HBG.out; omega)); clear ho hb hg hat)
      go_roundw
      case rel => exact ⟨k + 1, by have := HLT.out; omega, by first | rfl | (rw [wk]) | (rw [wk']) | simp, Lib.hid ⟨by rw [HST.out]; exact HR4.out, by rw [HST.out]; exact HI4.out, HK4.out⟩⟩
      case measure => exact meas_u HLT.out (by first | exact wk | exact wk' | simp)
    · have hkn : k = n := by omega
      rw [hkn] at hR hr
      have b1 : decide ((k : Int) < (n : Int)) = false := decide_eq_false (by omega)
      have b2 : (k < n) = False := eq_false (by omega)
      have HR4 := Lib.hid hR
      have HI4 := Lib.hid hr
      have HK4 := Lib.hid hkp
      clear hR hr hkp H hlt hk hkn
      go_wp2_with fail
      go_ret
      exact ⟨_, rfl, HR4.out, HI4.out, HK4.out⟩
end Go.Proofs.Ytfcmdhimlfoofaa.Hand


/- A message under way: the reader, the box, its rows. -/
namespace Go.Proofs.Ytfcmdhimlfoofaa.Hand
open Go Go.RowKit Go.Proofs.Ytfcmdhimlfoofaa.Plain Go.Proofs.Ytfcmdhimlfoofaa.PAll Go.Proofs.YtfcmdhimlfoofaaW.PrintWords Go.Proofs.YtfcmdhimlfoofaaW.PrintLast Go.Proofs.YtfcmdhimlfoofaaW.PrintMore
set_option linter.unusedVariables false
set_option linter.unusedSimpArgs false
set_option maxRecDepth 100000
/-- A message's cells, its rows as values. -/
def xcells (lv hv iv dv ev : Value) (m : MT) : List Value := .int .i64 m.kind :: lv :: (nums .u8 m.stop ++ (hv :: (nums .u8 m.block ++ [iv, dv, ev, .int .u64 m.nonce, .int .i64 m.of_, .int .i64 m.code])))
theorem mcells_x (a : MA) (m : MT) : mcells a m = xcells (.slice a.la m.loc.length a.lc) (.slice a.ha m.heads.length a.hc) (.slice a.ia m.item.length a.ic) (.slice a.da m.data.length a.dc) (.slice a.ea m.ents.length a.ec) m := rfl
theorem xcells_len (lv hv iv dv ev : Value) (m : MT) (hs : m.stop.length = 32) (hb : m.block.length = 32) : (xcells lv hv iv dv ev m).length = 73 := by
  simp [xcells, nums, hs, hb]
theorem xcells_at (lv hv iv dv ev : Value) (m : MT) (hs : m.stop.length = 32) (hb : m.block.length = 32) : (xcells lv hv iv dv ev m).toArray[0]? = some (.int .i64 m.kind) ∧ (xcells lv hv iv dv ev m).toArray[1]? = some lv ∧ (xcells lv hv iv dv ev m).toArray[34]? = some hv ∧ (xcells lv hv iv dv ev m).toArray[67]? = some iv ∧ (xcells lv hv iv dv ev m).toArray[68]? = some dv ∧ (xcells lv hv iv dv ev m).toArray[69]? = some ev ∧ (xcells lv hv iv dv ev m).toArray[70]? = some (.int .u64 m.nonce) ∧ (xcells lv hv iv dv ev m).toArray[71]? = some (.int .i64 m.of_) ∧ (xcells lv hv iv dv ev m).toArray[72]? = some (.int .i64 m.code) := by
  obtain ⟨kind, loc, stop, heads, block, item, data, ents, nonce, of_, code⟩ := m
  simp only at hs hb
  obtain ⟨x0, x1, x2, x3, x4, x5, x6, x7, x8, x9, x10, x11, x12, x13, x14, x15, x16, x17, x18, x19, x20, x21, x22, x23, x24, x25, x26, x27, x28, x29, x30, x31, rfl⟩ := list32 stop hs
  obtain ⟨y0, y1, y2, y3, y4, y5, y6, y7, y8, y9, y10, y11, y12, y13, y14, y15, y16, y17, y18, y19, y20, y21, y22, y23, y24, y25, y26, y27, y28, y29, y30, y31, rfl⟩ := list32 block hb
  exact ⟨rfl, rfl, rfl, rfl, rfl, rfl, rfl, rfl, rfl⟩
theorem xcells_set (lv hv iv dv ev : Value) (m : MT) (hs : m.stop.length = 32) (hb : m.block.length = 32) : (∀ v, (xcells lv hv iv dv ev m).toArray.setIfInBounds 1 v = (xcells v hv iv dv ev m).toArray) ∧ (∀ v, (xcells lv hv iv dv ev m).toArray.setIfInBounds 34 v = (xcells lv v iv dv ev m).toArray) ∧ (∀ v, (xcells lv hv iv dv ev m).toArray.setIfInBounds 67 v = (xcells lv hv v dv ev m).toArray) ∧ (∀ v, (xcells lv hv iv dv ev m).toArray.setIfInBounds 68 v = (xcells lv hv iv v ev m).toArray) ∧ (∀ v, (xcells lv hv iv dv ev m).toArray.setIfInBounds 69 v = (xcells lv hv iv dv v m).toArray) ∧ (∀ n, (xcells lv hv iv dv ev m).toArray.setIfInBounds 70 (.int .u64 n) = (xcells lv hv iv dv ev { m with nonce := n }).toArray) ∧ (∀ n, (xcells lv hv iv dv ev m).toArray.setIfInBounds 71 (.int .i64 n) = (xcells lv hv iv dv ev { m with of_ := n }).toArray) ∧ (∀ n, (xcells lv hv iv dv ev m).toArray.setIfInBounds 72 (.int .i64 n) = (xcells lv hv iv dv ev { m with code := n }).toArray) := by
  obtain ⟨kind, loc, stop, heads, block, item, data, ents, nonce, of_, code⟩ := m
  simp only at hs hb
  obtain ⟨x0, x1, x2, x3, x4, x5, x6, x7, x8, x9, x10, x11, x12, x13, x14, x15, x16, x17, x18, x19, x20, x21, x22, x23, x24, x25, x26, x27, x28, x29, x30, x31, rfl⟩ := list32 stop hs
  obtain ⟨y0, y1, y2, y3, y4, y5, y6, y7, y8, y9, y10, y11, y12, y13, y14, y15, y16, y17, y18, y19, y20, y21, y22, y23, y24, y25, y26, y27, y28, y29, y30, y31, rfl⟩ := list32 block hb
  exact ⟨fun _ => rfl, fun _ => rfl, fun _ => rfl, fun _ => rfl, fun _ => rfl, fun _ => rfl, fun _ => rfl, fun _ => rfl⟩
theorem xcells_one (lv hv iv dv ev : Value) (m : MT) (h1 : lv.oneCell' = true) (h2 : hv.oneCell' = true) (h3 : iv.oneCell' = true) (h4 : dv.oneCell' = true) (h5 : ev.oneCell' = true) : ∀ x ∈ xcells lv hv iv dv ev m, x.oneCell' = true := by
  intro x hx
  simp only [xcells, List.mem_cons, List.mem_append, List.not_mem_nil, or_false] at hx
  rcases hx with rfl | rfl | hx | rfl | hx | rfl | rfl | rfl | rfl | rfl | rfl
  · rfl
  · exact h1
  · exact nums_one _ _ _ hx
  · exact h2
  · exact nums_one _ _ _ hx
  · exact h3
  · exact h4
  · exact h5
  · rfl
  · rfl
  · rfl
/-- The reader at g (its memory from B on), the message under way in block bo, the answer's place gr. -/
structure PSt (Z : Array Value) (gr : Nat) (w0 w : World) (B g bo : Nat) (bs : List Int) (p : Nat) (x : Int) (m : MT) (lv hv iv dv ev : Value) : Prop where
  le : p ≤ bs.length
  rd : IsR w B g bs (p : Int) x
  blk : w.heap[bo]? = some (.cells (xcells lv hv iv dv ev m).toArray 33 (0, 0))
  rl : Kd.R kH 28 w (g + 1) (fun k => k ≠ g) lv m.loc
  rh : Kd.R kHd 54 w (g + 1) (fun k => k ≠ g) hv m.heads
  ri : Kd.R (Kd.int .u8) 5 w (g + 1) (fun k => k ≠ g) iv m.item
  rda : Kd.R (Kd.int .u8) 5 w (g + 1) (fun k => k ≠ g) dv m.data
  re : Kd.R kE 67 w (g + 1) (fun k => k ≠ g) ev m.ents
  s32 : m.stop.length = 32
  b32 : m.block.length = 32
  bel : Below w0.heap.size w0 w
  zb : w.heap[gr]? = some (.cells Z 33 (0, 0))
  o1 : w0.heap.size ≤ gr
  o2 : gr < B
  o3 : B ≤ g
  o4 : g < bo
section
variable {Z : Array Value} {gr : Nat} {w0 w w' : World} {B g bo : Nat} {bs : List Int} {p p' : Nat} {x x' : Int} {m : MT} {lv hv iv dv ev : Value}
theorem PSt.lt (h : PSt Z gr w0 w B g bo bs p x m lv hv iv dv ev) : bo < w.heap.size := blk_lt h.blk
theorem PSt.read (h : PSt Z gr w0 w B g bo bs p x m lv hv iv dv ev) (hr : IsR w' B g bs (p' : Int) x') (hk : RKeep w w' B g) (hp : p' ≤ bs.length) : PSt Z gr w0 w' B g bo bs p' x' m lv hv iv dv ev :=
  ⟨hp, hr, hk.2.blk h.blk (by have := h.o4; omega) (by simp), Kd.R_keep h.rl hk.2 (fun _ h => h), Kd.R_keep h.rh hk.2 (fun _ h => h), Kd.R_keep h.ri hk.2 (fun _ h => h), Kd.R_keep h.rda hk.2 (fun _ h => h), Kd.R_keep h.re hk.2 (fun _ h => h), h.s32, h.b32, h.bel.trans (Below.mono hk.1 (by have := h.o1; have := h.o2; omega)), hk.2.blk h.zb (by have := h.o2; have := h.o3; omega) (by simp), h.o1, h.o2, h.o3, h.o4⟩
theorem PSt.below (h : PSt Z gr w0 w B g bo bs p x m lv hv iv dv ev) (hb : Below w.heap.size w w') : PSt Z gr w0 w' B g bo bs p x m lv hv iv dv ev :=
  ⟨h.le, h.rd.later hb, (hb.block bo h.lt).trans h.blk, Kd.R_below h.rl hb, Kd.R_below h.rh hb, Kd.R_below h.ri hb, Kd.R_below h.rda hb, Kd.R_below h.re hb, h.s32, h.b32, h.bel.trans (Below.mono hb h.bel.size), (hb.block gr (blk_lt h.zb)).trans h.zb, h.o1, h.o2, h.o3, h.o4⟩
theorem PSt.cells (h : PSt Z gr w0 w B g bo bs p x m lv hv iv dv ev) : (∀ j, w.frozen? ⟨bo, j, none⟩ = false) ∧ w.cell? ⟨bo, 0, none⟩ = some (.int .i64 m.kind) ∧ w.cell? ⟨bo, 1, none⟩ = some lv ∧ w.cell? ⟨bo, 34, none⟩ = some hv ∧ w.cell? ⟨bo, 67, none⟩ = some iv ∧ w.cell? ⟨bo, 68, none⟩ = some dv ∧ w.cell? ⟨bo, 69, none⟩ = some ev ∧ w.cell? ⟨bo, 70, none⟩ = some (.int .u64 m.nonce) ∧ w.cell? ⟨bo, 71, none⟩ = some (.int .i64 m.of_) ∧ w.cell? ⟨bo, 72, none⟩ = some (.int .i64 m.code) := by
  obtain ⟨h0, h1, h2, h3, h4, h5, h6, h7, h8⟩ := xcells_at lv hv iv dv ev m h.s32 h.b32
  have hb := h.blk
  exact ⟨fun j => blk_frozen hb j, (blk_cell hb _).trans h0, (blk_cell hb _).trans h1, (blk_cell hb _).trans h2, (blk_cell hb _).trans h3, (blk_cell hb _).trans h4, (blk_cell hb _).trans h5, (blk_cell hb _).trans h6, (blk_cell hb _).trans h7, (blk_cell hb _).trans h8⟩
/-- A cell of the box is set: what does not change. -/
theorem PSt.other (h : PSt Z gr w0 w B g bo bs p x m lv hv iv dv ev) (j : Nat) (v : Value) : IsR (w.setCell ⟨bo, j, none⟩ v) B g bs (p : Int) x ∧ Kd.R kH 28 (w.setCell ⟨bo, j, none⟩ v) (g + 1) (fun k => k ≠ g) lv m.loc ∧ Kd.R kHd 54 (w.setCell ⟨bo, j, none⟩ v) (g + 1) (fun k => k ≠ g) hv m.heads ∧ Kd.R (Kd.int .u8) 5 (w.setCell ⟨bo, j, none⟩ v) (g + 1) (fun k => k ≠ g) iv m.item ∧ Kd.R (Kd.int .u8) 5 (w.setCell ⟨bo, j, none⟩ v) (g + 1) (fun k => k ≠ g) dv m.data ∧ Kd.R kE 67 (w.setCell ⟨bo, j, none⟩ v) (g + 1) (fun k => k ≠ g) ev m.ents ∧ Below w0.heap.size w0 (w.setCell ⟨bo, j, none⟩ v) ∧ (w.setCell ⟨bo, j, none⟩ v).heap[gr]? = some (.cells Z 33 (0, 0)) :=
  ⟨h.rd.below (B' := g + 1) ((Below.refl _ _).setCell (p := ⟨bo, j, none⟩) (by show g + 1 ≤ bo; have := h.o4; omega) v) (by omega), Kd.R_set h.rl h.blk (by decide) j v, Kd.R_set h.rh h.blk (by decide) j v, Kd.R_set h.ri h.blk (by decide) j v, Kd.R_set h.rda h.blk (by decide) j v, Kd.R_set h.re h.blk (by decide) j v, h.bel.setCell (p := ⟨bo, j, none⟩) (by show w0.heap.size ≤ bo; have := h.o1; have := h.o2; have := h.o3; have := h.o4; omega) v, (Below.heap_setCell w ⟨bo, j, none⟩ v gr (by show gr ≠ bo; have := h.o2; have := h.o3; have := h.o4; omega)).trans h.zb⟩
theorem PSt.nonce (h : PSt Z gr w0 w B g bo bs p x m lv hv iv dv ev) (n : Int) : PSt Z gr w0 (w.setCell ⟨bo, 70, none⟩ (.int .u64 n)) B g bo bs p x { m with nonce := n } lv hv iv dv ev := by
  obtain ⟨a1, a2, a3, a4, a5, a6, a7, a8⟩ := h.other 70 (.int .u64 n)
  exact ⟨h.le, a1, by rw [← (xcells_set lv hv iv dv ev m h.s32 h.b32).2.2.2.2.2.1 n]; exact blk_set h.blk 70 _, a2, a3, a4, a5, a6, h.s32, h.b32, a7, a8, h.o1, h.o2, h.o3, h.o4⟩
theorem PSt.of (h : PSt Z gr w0 w B g bo bs p x m lv hv iv dv ev) (n : Int) : PSt Z gr w0 (w.setCell ⟨bo, 71, none⟩ (.int .i64 n)) B g bo bs p x { m with of_ := n } lv hv iv dv ev := by
  obtain ⟨a1, a2, a3, a4, a5, a6, a7, a8⟩ := h.other 71 (.int .i64 n)
  exact ⟨h.le, a1, by rw [← (xcells_set lv hv iv dv ev m h.s32 h.b32).2.2.2.2.2.2.1 n]; exact blk_set h.blk 71 _, a2, a3, a4, a5, a6, h.s32, h.b32, a7, a8, h.o1, h.o2, h.o3, h.o4⟩
theorem PSt.code (h : PSt Z gr w0 w B g bo bs p x m lv hv iv dv ev) (n : Int) : PSt Z gr w0 (w.setCell ⟨bo, 72, none⟩ (.int .i64 n)) B g bo bs p x { m with code := n } lv hv iv dv ev := by
  obtain ⟨a1, a2, a3, a4, a5, a6, a7, a8⟩ := h.other 72 (.int .i64 n)
  exact ⟨h.le, a1, by rw [← (xcells_set lv hv iv dv ev m h.s32 h.b32).2.2.2.2.2.2.2 n]; exact blk_set h.blk 72 _, a2, a3, a4, a5, a6, h.s32, h.b32, a7, a8, h.o1, h.o2, h.o3, h.o4⟩
theorem PSt.locS (h : PSt Z gr w0 w B g bo bs p x m lv hv iv dv ev) {v : Value} {l : List (List Int)} (hR : Kd.R kH 28 w (g + 1) (fun k => k ≠ g) v l) : PSt Z gr w0 (w.setCell ⟨bo, 1, none⟩ v) B g bo bs p x { m with loc := l } v hv iv dv ev := by
  obtain ⟨a1, a2, a3, a4, a5, a6, a7, a8⟩ := h.other 1 v
  exact ⟨h.le, a1, by have e := blk_set h.blk 1 v; rw [(xcells_set lv hv iv dv ev m h.s32 h.b32).1 v] at e; exact e, Kd.R_set hR h.blk (by decide) 1 v, a3, a4, a5, a6, h.s32, h.b32, a7, a8, h.o1, h.o2, h.o3, h.o4⟩
theorem PSt.headsS (h : PSt Z gr w0 w B g bo bs p x m lv hv iv dv ev) {v : Value} {l : List HT} (hR : Kd.R kHd 54 w (g + 1) (fun k => k ≠ g) v l) : PSt Z gr w0 (w.setCell ⟨bo, 34, none⟩ v) B g bo bs p x { m with heads := l } lv v iv dv ev := by
  obtain ⟨a1, a2, a3, a4, a5, a6, a7, a8⟩ := h.other 34 v
  exact ⟨h.le, a1, by have e := blk_set h.blk 34 v; rw [(xcells_set lv hv iv dv ev m h.s32 h.b32).2.1 v] at e; exact e, a2, Kd.R_set hR h.blk (by decide) 34 v, a4, a5, a6, h.s32, h.b32, a7, a8, h.o1, h.o2, h.o3, h.o4⟩
theorem PSt.itemS (h : PSt Z gr w0 w B g bo bs p x m lv hv iv dv ev) {v : Value} {l : List Int} (hR : Kd.R (Kd.int .u8) 5 w (g + 1) (fun k => k ≠ g) v l) : PSt Z gr w0 (w.setCell ⟨bo, 67, none⟩ v) B g bo bs p x { m with item := l } lv hv v dv ev := by
  obtain ⟨a1, a2, a3, a4, a5, a6, a7, a8⟩ := h.other 67 v
  exact ⟨h.le, a1, by have e := blk_set h.blk 67 v; rw [(xcells_set lv hv iv dv ev m h.s32 h.b32).2.2.1 v] at e; exact e, a2, a3, Kd.R_set hR h.blk (by decide) 67 v, a5, a6, h.s32, h.b32, a7, a8, h.o1, h.o2, h.o3, h.o4⟩
theorem PSt.dataS (h : PSt Z gr w0 w B g bo bs p x m lv hv iv dv ev) {v : Value} {l : List Int} (hR : Kd.R (Kd.int .u8) 5 w (g + 1) (fun k => k ≠ g) v l) : PSt Z gr w0 (w.setCell ⟨bo, 68, none⟩ v) B g bo bs p x { m with data := l } lv hv iv v ev := by
  obtain ⟨a1, a2, a3, a4, a5, a6, a7, a8⟩ := h.other 68 v
  exact ⟨h.le, a1, by have e := blk_set h.blk 68 v; rw [(xcells_set lv hv iv dv ev m h.s32 h.b32).2.2.2.1 v] at e; exact e, a2, a3, a4, Kd.R_set hR h.blk (by decide) 68 v, a6, h.s32, h.b32, a7, a8, h.o1, h.o2, h.o3, h.o4⟩
theorem PSt.entsS (h : PSt Z gr w0 w B g bo bs p x m lv hv iv dv ev) {v : Value} {l : List ET} (hR : Kd.R kE 67 w (g + 1) (fun k => k ≠ g) v l) : PSt Z gr w0 (w.setCell ⟨bo, 69, none⟩ v) B g bo bs p x { m with ents := l } lv hv iv dv v := by
  obtain ⟨a1, a2, a3, a4, a5, a6, a7, a8⟩ := h.other 69 v
  exact ⟨h.le, a1, by have e := blk_set h.blk 69 v; rw [(xcells_set lv hv iv dv ev m h.s32 h.b32).2.2.2.2.1 v] at e; exact e, a2, a3, a4, a5, Kd.R_set hR h.blk (by decide) 69 v, h.s32, h.b32, a7, a8, h.o1, h.o2, h.o3, h.o4⟩
theorem PSt.stopS (h : PSt Z gr w0 w B g bo bs p x m lv hv iv dv ev) {l : List Int} (hl : l.length = 32) : PSt Z gr w0 (w.setCells bo 2 (nums .u8 l)) B g bo bs p x { m with stop := l } lv hv iv dv ev := by
  have hR : ∀ {α : Type} {d : Kd α} {e : Nat} {v : Value} {xs : List α}, d.R e w (g + 1) (fun k => k ≠ g) v xs → (∀ q, q ∈ e :: d.E → q ≠ 33) → d.R e (w.setCells bo 2 (nums .u8 l)) (g + 1) (fun k => k ≠ g) v xs := fun hr ht =>
    Kd.R_mono (Kd.R_step (Kd.R_types hr h.blk ht) (fun k hk _ => heap_setCells_ne bo (nums .u8 l) 2 w k hk.2)) (fun _ hk => hk.1)
  have hb := heap_setCells_at bo 33 (nums .u8 l) 2 w ([.int .i64 m.kind, lv]) (nums .u8 m.stop) (hv :: (nums .u8 m.block ++ [iv, dv, ev, .int .u64 m.nonce, .int .i64 m.of_, .int .i64 m.code])) (by rw [h.blk]; simp [xcells]) (by simp [nums, h.s32]) (by simp [nums, h.s32, h.b32, hl])
  have hbel := below_setCells' (B := g + 1) (b := bo) (a := w) (by have := h.o4; omega) (nums .u8 l) 2 w (Below.refl _ _)
  exact ⟨h.le, h.rd.below hbel (by omega), by rw [hb]; simp [xcells], hR h.rl (by decide), hR h.rh (by decide), hR h.ri (by decide), hR h.rda (by decide), hR h.re (by decide), hl, h.b32, h.bel.trans (Below.mono hbel (by have := h.o1; have := h.o2; have := h.o3; omega)), (heap_setCells_ne bo (nums .u8 l) 2 w gr (by have := h.o2; have := h.o3; have := h.o4; omega)).trans h.zb, h.o1, h.o2, h.o3, h.o4⟩
theorem PSt.blockS (h : PSt Z gr w0 w B g bo bs p x m lv hv iv dv ev) {l : List Int} (hl : l.length = 32) : PSt Z gr w0 (w.setCells bo 35 (nums .u8 l)) B g bo bs p x { m with block := l } lv hv iv dv ev := by
  have hR : ∀ {α : Type} {d : Kd α} {e : Nat} {v : Value} {xs : List α}, d.R e w (g + 1) (fun k => k ≠ g) v xs → (∀ q, q ∈ e :: d.E → q ≠ 33) → d.R e (w.setCells bo 35 (nums .u8 l)) (g + 1) (fun k => k ≠ g) v xs := fun hr ht =>
    Kd.R_mono (Kd.R_step (Kd.R_types hr h.blk ht) (fun k hk _ => heap_setCells_ne bo (nums .u8 l) 35 w k hk.2)) (fun _ hk => hk.1)
  have hb := heap_setCells_at bo 33 (nums .u8 l) 35 w (.int .i64 m.kind :: lv :: (nums .u8 m.stop ++ [hv])) (nums .u8 m.block) ([iv, dv, ev, .int .u64 m.nonce, .int .i64 m.of_, .int .i64 m.code]) (by rw [h.blk]; simp [xcells]) (by simp [nums, h.s32]) (by simp [nums, h.s32, h.b32, hl])
  have hbel := below_setCells' (B := g + 1) (b := bo) (a := w) (by have := h.o4; omega) (nums .u8 l) 35 w (Below.refl _ _)
  exact ⟨h.le, h.rd.below hbel (by omega), by rw [hb]; simp [xcells], hR h.rl (by decide), hR h.rh (by decide), hR h.ri (by decide), hR h.rda (by decide), hR h.re (by decide), h.s32, hl, h.bel.trans (Below.mono hbel (by have := h.o1; have := h.o2; have := h.o3; omega)), (heap_setCells_ne bo (nums .u8 l) 35 w gr (by have := h.o2; have := h.o3; have := h.o4; omega)).trans h.zb, h.o1, h.o2, h.o3, h.o4⟩
theorem PSt.there (h : PSt Z gr w0 w B g bo bs p x m lv hv iv dv ev) : w.there bo 2 32 ∧ w.there bo 35 32 := by
  have hl := xcells_len lv hv iv dv ev m h.s32 h.b32
  refine ⟨fun j hj => ?_, fun j hj => ?_⟩
  · rw [blk_cell h.blk, blk_frozen h.blk]
    simp [hl]
    omega
  · rw [blk_cell h.blk, blk_frozen h.blk]
    simp [hl]
    omega
/-- One more in the row. -/
theorem PSt.pushH (h : PSt Z gr w0 w B g bo bs p x m lv hv iv dv ev) {v1 : Value} {l : List HT} (ho : Kd.R kHd 54 w' (g + 1) (fun k => k ≠ g) v1 l) (hb : Below (g + 1) w w') (hg : w.grownBy w' hv.ownBlock) :
    ∃ A1 n1 c1, v1 = .slice A1 n1 c1 ∧ w'.frozen? ⟨bo, 34, none⟩ = false ∧ w'.cell? ⟨bo, 34, none⟩ = some hv ∧ PSt Z gr w0 (w'.setCell ⟨bo, 34, none⟩ (.slice A1 n1 c1)) B g bo bs p x { m with heads := l } lv (.slice A1 n1 c1) iv dv ev := by
  have self := h.rh
  have hne := Kd.R_ne self h.blk (by decide)
  have hgb := (hg.block bo h.lt hne).trans h.blk
  obtain ⟨A1, c1, rfl⟩ := Kd.R_slice ho
  have hset := (xcells_set lv hv iv dv ev m h.s32 h.b32).2.1 (.slice A1 l.length c1)
  have e := blk_set hgb 34 (.slice A1 l.length c1)
  rw [hset] at e
  have hbel : Below w0.heap.size w0 (w'.setCell ⟨bo, 34, none⟩ (.slice A1 l.length c1)) := (h.bel.trans (Below.mono hb (by have := h.o1; have := h.o2; have := h.o3; omega))).setCell (p := ⟨bo, 34, none⟩) (by show w0.heap.size ≤ bo; have := h.o1; have := h.o2; have := h.o3; have := h.o4; omega) _
  have hrd : IsR (w'.setCell ⟨bo, 34, none⟩ (.slice A1 l.length c1)) B g bs (p : Int) x := (h.rd.below hb (by omega)).below (B' := g + 1) ((Below.refl _ _).setCell (p := ⟨bo, 34, none⟩) (by show g + 1 ≤ bo; have := h.o4; omega) _) (by omega)
  have hz : (w'.setCell ⟨bo, 34, none⟩ (.slice A1 l.length c1)).heap[gr]? = some (.cells Z 33 (0, 0)) := (Below.heap_setCell w' ⟨bo, 34, none⟩ _ gr (by show gr ≠ bo; have := h.o2; have := h.o3; have := h.o4; omega)).trans ((hb.block gr (by have := h.o2; have := h.o3; omega)).trans h.zb)
  exact ⟨A1, l.length, c1, rfl, blk_frozen hgb 34, (blk_cell hgb 34).trans (xcells_at lv hv iv dv ev m h.s32 h.b32).2.2.1, h.le, hrd, e, Kd.R_set (Kd.R_over h.rl self (by decide) hg) hgb (by decide) 34 _, Kd.R_set ho hgb (by decide) 34 _, Kd.R_set (Kd.R_over h.ri self (by decide) hg) hgb (by decide) 34 _, Kd.R_set (Kd.R_over h.rda self (by decide) hg) hgb (by decide) 34 _, Kd.R_set (Kd.R_over h.re self (by decide) hg) hgb (by decide) 34 _, h.s32, h.b32, hbel, hz, h.o1, h.o2, h.o3, h.o4⟩
/-- One more in the row. -/
theorem PSt.pushE (h : PSt Z gr w0 w B g bo bs p x m lv hv iv dv ev) {v1 : Value} {l : List ET} (ho : Kd.R kE 67 w' (g + 1) (fun k => k ≠ g) v1 l) (hb : Below (g + 1) w w') (hg : w.grownBy w' ev.ownBlock) :
    ∃ A1 n1 c1, v1 = .slice A1 n1 c1 ∧ w'.frozen? ⟨bo, 69, none⟩ = false ∧ w'.cell? ⟨bo, 69, none⟩ = some ev ∧ PSt Z gr w0 (w'.setCell ⟨bo, 69, none⟩ (.slice A1 n1 c1)) B g bo bs p x { m with ents := l } lv hv iv dv (.slice A1 n1 c1) := by
  have self := h.re
  have hne := Kd.R_ne self h.blk (by decide)
  have hgb := (hg.block bo h.lt hne).trans h.blk
  obtain ⟨A1, c1, rfl⟩ := Kd.R_slice ho
  have hset := (xcells_set lv hv iv dv ev m h.s32 h.b32).2.2.2.2.1 (.slice A1 l.length c1)
  have e := blk_set hgb 69 (.slice A1 l.length c1)
  rw [hset] at e
  have hbel : Below w0.heap.size w0 (w'.setCell ⟨bo, 69, none⟩ (.slice A1 l.length c1)) := (h.bel.trans (Below.mono hb (by have := h.o1; have := h.o2; have := h.o3; omega))).setCell (p := ⟨bo, 69, none⟩) (by show w0.heap.size ≤ bo; have := h.o1; have := h.o2; have := h.o3; have := h.o4; omega) _
  have hrd : IsR (w'.setCell ⟨bo, 69, none⟩ (.slice A1 l.length c1)) B g bs (p : Int) x := (h.rd.below hb (by omega)).below (B' := g + 1) ((Below.refl _ _).setCell (p := ⟨bo, 69, none⟩) (by show g + 1 ≤ bo; have := h.o4; omega) _) (by omega)
  have hz : (w'.setCell ⟨bo, 69, none⟩ (.slice A1 l.length c1)).heap[gr]? = some (.cells Z 33 (0, 0)) := (Below.heap_setCell w' ⟨bo, 69, none⟩ _ gr (by show gr ≠ bo; have := h.o2; have := h.o3; have := h.o4; omega)).trans ((hb.block gr (by have := h.o2; have := h.o3; omega)).trans h.zb)
  exact ⟨A1, l.length, c1, rfl, blk_frozen hgb 69, (blk_cell hgb 69).trans (xcells_at lv hv iv dv ev m h.s32 h.b32).2.2.2.2.2.1, h.le, hrd, e, Kd.R_set (Kd.R_over h.rl self (by decide) hg) hgb (by decide) 69 _, Kd.R_set (Kd.R_over h.rh self (by decide) hg) hgb (by decide) 69 _, Kd.R_set (Kd.R_over h.ri self (by decide) hg) hgb (by decide) 69 _, Kd.R_set (Kd.R_over h.rda self (by decide) hg) hgb (by decide) 69 _, Kd.R_set ho hgb (by decide) 69 _, h.s32, h.b32, hbel, hz, h.o1, h.o2, h.o3, h.o4⟩
end
end Go.Proofs.Ytfcmdhimlfoofaa.Hand


/- A field is taken: walked (Msg.take), field by field. -/
namespace Go.Proofs.Ytfcmdhimlfoofaa.Hand
open Go Go.RowKit Go.Proofs.Ytfcmdhimlfoofaa.Plain Go.Proofs.Ytfcmdhimlfoofaa.PAll Go.Proofs.YtfcmdhimlfoofaaW.PrintWords Go.Proofs.YtfcmdhimlfoofaaW.PrintLast Go.Proofs.YtfcmdhimlfoofaaW.PrintMore
set_option linter.unusedVariables false
set_option linter.unusedSimpArgs false
set_option maxRecDepth 100000
attribute [local go_sem ↓] Go.wp_at_zero Go.wp_at_succ
/-- What a take leaves. -/
def Took (Z : Array Value) (gr : Nat) (w0 w' : World) (B g bo : Nat) (bs : List Int) (s : MT × Nat × Int) : Prop := ∃ lv hv iv dv ev, PSt Z gr w0 w' B g bo bs s.2.1 s.2.2 s.1 lv hv iv dv ev
theorem numR_byte {bs : List Int} (hb : ∀ y ∈ bs, 0 ≤ y ∧ y < 256) (p : Nat) (x : Int) : 0 ≤ (numR bs p x 1).1 ∧ (numR bs p x 1).1 < 256 := by
  unfold numR
  have hw : (wid 1 : Int) = 1 := by decide
  rw [hw]
  unfold takeR
  split
  · show 0 ≤ val [] ∧ val [] < 256
    exact ⟨by decide, by decide⟩
  split
  · show 0 ≤ val [] ∧ val [] < 256
    exact ⟨by decide, by decide⟩
  · simp only
    cases h : bs.drop p with
    | nil => exact ⟨by decide, by decide⟩
    | cons y t =>
      have hy := hb y (List.mem_of_mem_drop (i := p) (by rw [h]; simp))
      have : val ((y :: t).take (1 : Int).toNat) = y := by simp [val]
      rw [this]
      exact hy
set_option maxHeartbeats 4000000 in
theorem take_loc {Z : Array Value} {gr : Nat} {w0 w : World} {B g bo : Nat} {bs : List Int} {p : Nat} {x : Int} {m : MT} {lv hv iv dv ev : Value} (h : PSt Z gr w0 w B g bo bs p x m lv hv iv dv ev) (hb : ∀ y ∈ bs, 0 ≤ y ∧ y < 256) (hl : bs.length ≤ 100000000) :
    Calls Try.prog 33 #[.pointer (some ⟨bo, 0, none⟩), .pointer (some ⟨g, 0, none⟩), .int .i64 0] w fun e w' => e = .returned (.tuple #[]) ∧ Took Z gr w0 w' B g bo bs (takeF bs 0 m p x) := by
  have HP := Lib.hid h
  have HC := Lib.hid (taken_calls h.rd hb h.le hl 64 (by decide) (by decide))
  have hle : (takenR bs p x 64).2.1 ≤ bs.length := takenR_le h.le _ _
  have e : Took Z gr w0 = Took Z gr w0 := rfl
  obtain ⟨⟨L, q, y⟩, hS⟩ : ∃ s, takenR bs p x 64 = s := ⟨_, rfl⟩
  have HT := Lib.hid (show (takeF bs 0 m p x).2 = (q, y) ∧ (takeF bs 0 m p x).1 = { m with loc := L } from by
    have e1 : takeF bs 0 m p x = ({ m with loc := (takenR bs p x 64).1 }, (takenR bs p x 64).2) := rfl
    rw [e1, hS]
    exact ⟨rfl, rfl⟩)
  rw [hS] at HC hle
  simp only at HC hle
  have HLE := Lib.hid hle
  clear h hb hl hle e hS
  go_enter Try.func33, Try.ntmps33
  go_wp2_with fail
  refine HC.out.mono ?_
  rintro e w1 ⟨v, rfl, hv1, hr1, hk1⟩
  have hP1 := HP.out.read hr1 hk1 HLE.out
  have hR1 : Kd.R kH 28 w1 (g + 1) (fun k => k ≠ g) v L := Kd.R_lower hv1 (by have := HP.out.rd.lt; omega)
  obtain ⟨A1, c1, rfl⟩ := Kd.R_slice hv1
  have hP2 := hP1.locS hR1
  obtain ⟨fz, _, z1, z34, z67, z68, z69, _⟩ := hP1.cells
  have f1 := fz 1
  have HP2 := Lib.hid hP2
  obtain ⟨n1, hn1⟩ : ∃ n, L.length = n := ⟨_, rfl⟩
  rw [hn1] at HP2 ⊢
  clear hv1 hr1 hk1 hP1 hR1 hP2 fz hn1
  go_wp2_with fail
  go_end0
  exact ⟨rfl, by unfold Took; rw [HT.out.1, HT.out.2]; exact ⟨_, _, _, _, _, HP2.out⟩⟩
set_option maxHeartbeats 4000000 in
theorem take_data {Z : Array Value} {gr : Nat} {w0 w : World} {B g bo : Nat} {bs : List Int} {p : Nat} {x : Int} {m : MT} {lv hv iv dv ev : Value} (h : PSt Z gr w0 w B g bo bs p x m lv hv iv dv ev) (hb : ∀ y ∈ bs, 0 ≤ y ∧ y < 256) (hl : bs.length ≤ 100000000) :
    Calls Try.prog 33 #[.pointer (some ⟨bo, 0, none⟩), .pointer (some ⟨g, 0, none⟩), .int .i64 5] w fun e w' => e = .returned (.tuple #[]) ∧ Took Z gr w0 w' B g bo bs (takeF bs 5 m p x) := by
  have HP := Lib.hid h
  have HC := Lib.hid (ctextr_calls h.rd hb h.le hl 2048 (by decide))
  have hle : (textR bs p x 2048).2.1 ≤ bs.length := textR_le h.le _ _
  have e : Took Z gr w0 = Took Z gr w0 := rfl
  obtain ⟨⟨L, q, y⟩, hS⟩ : ∃ s, textR bs p x 2048 = s := ⟨_, rfl⟩
  have HT := Lib.hid (show (takeF bs 5 m p x).2 = (q, y) ∧ (takeF bs 5 m p x).1 = { m with data := L } from by
    have e1 : takeF bs 5 m p x = ({ m with data := (textR bs p x 2048).1 }, (textR bs p x 2048).2) := rfl
    rw [e1, hS]
    exact ⟨rfl, rfl⟩)
  rw [hS] at HC hle
  simp only at HC hle
  have HLE := Lib.hid hle
  clear h hb hl hle e hS
  go_enter Try.func33, Try.ntmps33
  go_wp2_with fail
  refine HC.out.mono ?_
  rintro e w1 ⟨v, rfl, hv1, hr1, hk1⟩
  have hP1 := HP.out.read hr1 hk1 HLE.out
  have hR1 : Kd.R (Kd.int .u8) 5 w1 (g + 1) (fun k => k ≠ g) v L := Kd.R_lower hv1 (by have := HP.out.rd.lt; omega)
  obtain ⟨A1, c1, rfl⟩ := Kd.R_slice hv1
  have hP2 := hP1.dataS hR1
  obtain ⟨fz, _, z1, z34, z67, z68, z69, _⟩ := hP1.cells
  have f1 := fz 68
  have HP2 := Lib.hid hP2
  obtain ⟨n1, hn1⟩ : ∃ n, L.length = n := ⟨_, rfl⟩
  rw [hn1] at HP2 ⊢
  clear hv1 hr1 hk1 hP1 hR1 hP2 fz hn1
  go_wp2_with fail
  go_end0
  exact ⟨rfl, by unfold Took; rw [HT.out.1, HT.out.2]; exact ⟨_, _, _, _, _, HP2.out⟩⟩
set_option maxHeartbeats 4000000 in
theorem take_item {Z : Array Value} {gr : Nat} {w0 w : World} {B g bo : Nat} {bs : List Int} {p : Nat} {x : Int} {m : MT} {lv hv iv dv ev : Value} (h : PSt Z gr w0 w B g bo bs p x m lv hv iv dv ev) (hb : ∀ y ∈ bs, 0 ≤ y ∧ y < 256) (hl : bs.length ≤ 100000000) :
    Calls Try.prog 33 #[.pointer (some ⟨bo, 0, none⟩), .pointer (some ⟨g, 0, none⟩), .int .i64 6] w fun e w' => e = .returned (.tuple #[]) ∧ Took Z gr w0 w' B g bo bs (takeF bs 6 m p x) := by
  have HP := Lib.hid h
  have HC := Lib.hid (ctextr_calls h.rd hb h.le hl 64 (by decide))
  have hle : (textR bs p x 64).2.1 ≤ bs.length := textR_le h.le _ _
  have e : Took Z gr w0 = Took Z gr w0 := rfl
  obtain ⟨⟨L, q, y⟩, hS⟩ : ∃ s, textR bs p x 64 = s := ⟨_, rfl⟩
  have HT := Lib.hid (show (takeF bs 6 m p x).2 = (q, y) ∧ (takeF bs 6 m p x).1 = { m with item := L } from by
    have e1 : takeF bs 6 m p x = ({ m with item := (textR bs p x 64).1 }, (textR bs p x 64).2) := rfl
    rw [e1, hS]
    exact ⟨rfl, rfl⟩)
  rw [hS] at HC hle
  simp only at HC hle
  have HLE := Lib.hid hle
  clear h hb hl hle e hS
  go_enter Try.func33, Try.ntmps33
  go_wp2_with fail
  refine HC.out.mono ?_
  rintro e w1 ⟨v, rfl, hv1, hr1, hk1⟩
  have hP1 := HP.out.read hr1 hk1 HLE.out
  have hR1 : Kd.R (Kd.int .u8) 5 w1 (g + 1) (fun k => k ≠ g) v L := Kd.R_lower hv1 (by have := HP.out.rd.lt; omega)
  obtain ⟨A1, c1, rfl⟩ := Kd.R_slice hv1
  have hP2 := hP1.itemS hR1
  obtain ⟨fz, _, z1, z34, z67, z68, z69, _⟩ := hP1.cells
  have f1 := fz 67
  have HP2 := Lib.hid hP2
  obtain ⟨n1, hn1⟩ : ∃ n, L.length = n := ⟨_, rfl⟩
  rw [hn1] at HP2 ⊢
  clear hv1 hr1 hk1 hP1 hR1 hP2 fz hn1
  go_wp2_with fail
  go_end0
  exact ⟨rfl, by unfold Took; rw [HT.out.1, HT.out.2]; exact ⟨_, _, _, _, _, HP2.out⟩⟩
set_option maxHeartbeats 4000000 in
theorem take_stop {Z : Array Value} {gr : Nat} {w0 w : World} {B g bo : Nat} {bs : List Int} {p : Nat} {x : Int} {m : MT} {lv hv iv dv ev : Value} (h : PSt Z gr w0 w B g bo bs p x m lv hv iv dv ev) (hb : ∀ y ∈ bs, 0 ≤ y ∧ y < 256) (hl : bs.length ≤ 100000000) :
    Calls Try.prog 33 #[.pointer (some ⟨bo, 0, none⟩), .pointer (some ⟨g, 0, none⟩), .int .i64 1] w fun e w' => e = .returned (.tuple #[]) ∧ Took Z gr w0 w' B g bo bs (takeF bs 1 m p x) := by
  have HP := Lib.hid h
  have HC := Lib.hid (chash_calls h.rd h.le hl)
  have hle : (hashR bs p x).2.1 ≤ bs.length := hashR_le h.le _
  have h32 := hashR_len bs p x
  obtain ⟨⟨L, q, y⟩, hS⟩ : ∃ s, hashR bs p x = s := ⟨_, rfl⟩
  have HT := Lib.hid (show (takeF bs 1 m p x).2 = (q, y) ∧ (takeF bs 1 m p x).1 = { m with stop := L } from by
    have e1 : takeF bs 1 m p x = ({ m with stop := (hashR bs p x).1 }, (hashR bs p x).2) := rfl
    rw [e1, hS]
    exact ⟨rfl, rfl⟩)
  rw [hS] at HC hle h32
  simp only at HC hle h32
  unfold hashV at HC
  have HLE := Lib.hid hle
  have HL32 := Lib.hid h32
  have hsz : (nums .u8 L).toArray.size = 32 := by simp [nums, h32]
  have hone := all_oneCell_toArray (nums_one .u8 L)
  have HI := Lib.hid (show (Try.prog.info? 28).map (·.size) = some (nums .u8 L).toArray.size by rw [hsz]; kernel_rfl)
  have HONE := Lib.hid hone
  have HSZ := Lib.hid hsz
  obtain ⟨C, hC⟩ : ∃ C, (nums .u8 L).toArray = C := ⟨_, rfl⟩
  rw [hC] at HC HI HONE HSZ
  have HCC := Lib.hid (show C.toList = nums .u8 L by rw [← hC])
  clear h hb hl hle h32 hS hsz hone hC
  go_enter Try.func33, Try.ntmps33
  go_wp2_with fail
  refine HC.out.mono ?_
  rintro e w1 ⟨rfl, hr1, hk1⟩
  have hP1 := HP.out.read hr1 hk1 HLE.out
  have HTH := Lib.hid (show w1.there bo 2 C.size by rw [HSZ.out]; exact hP1.there.1)
  have HP2 := Lib.hid (show PSt Z gr w0 (w1.setCells bo 2 C.toList) B g bo bs q y { m with stop := L } lv hv iv dv ev by rw [HCC.out]; exact hP1.stopS HL32.out)
  clear hr1 hk1 hP1
  go_wp2_with ((with_reducible show wpList _ _ _ (Oper.mk _ (Op.store 28 _ _) _ _ _ _ :: _) _ _); (go_loud (refine wpList_store_mid rfl 28 (.tmp 23) (.tmp 21) rfl bo 2 C rfl rfl HTH.out HI.out HONE.out ?_)))
  go_end0
  exact ⟨rfl, by unfold Took; rw [HT.out.1, HT.out.2]; exact ⟨_, _, _, _, _, HP2.out⟩⟩
set_option maxHeartbeats 4000000 in
theorem take_block {Z : Array Value} {gr : Nat} {w0 w : World} {B g bo : Nat} {bs : List Int} {p : Nat} {x : Int} {m : MT} {lv hv iv dv ev : Value} (h : PSt Z gr w0 w B g bo bs p x m lv hv iv dv ev) (hb : ∀ y ∈ bs, 0 ≤ y ∧ y < 256) (hl : bs.length ≤ 100000000) :
    Calls Try.prog 33 #[.pointer (some ⟨bo, 0, none⟩), .pointer (some ⟨g, 0, none⟩), .int .i64 4] w fun e w' => e = .returned (.tuple #[]) ∧ Took Z gr w0 w' B g bo bs (takeF bs 4 m p x) := by
  have HP := Lib.hid h
  have HC := Lib.hid (chash_calls h.rd h.le hl)
  have hle : (hashR bs p x).2.1 ≤ bs.length := hashR_le h.le _
  have h32 := hashR_len bs p x
  obtain ⟨⟨L, q, y⟩, hS⟩ : ∃ s, hashR bs p x = s := ⟨_, rfl⟩
  have HT := Lib.hid (show (takeF bs 4 m p x).2 = (q, y) ∧ (takeF bs 4 m p x).1 = { m with block := L } from by
    have e1 : takeF bs 4 m p x = ({ m with block := (hashR bs p x).1 }, (hashR bs p x).2) := rfl
    rw [e1, hS]
    exact ⟨rfl, rfl⟩)
  rw [hS] at HC hle h32
  simp only at HC hle h32
  unfold hashV at HC
  have HLE := Lib.hid hle
  have HL32 := Lib.hid h32
  have hsz : (nums .u8 L).toArray.size = 32 := by simp [nums, h32]
  have hone := all_oneCell_toArray (nums_one .u8 L)
  have HI := Lib.hid (show (Try.prog.info? 28).map (·.size) = some (nums .u8 L).toArray.size by rw [hsz]; kernel_rfl)
  have HONE := Lib.hid hone
  have HSZ := Lib.hid hsz
  obtain ⟨C, hC⟩ : ∃ C, (nums .u8 L).toArray = C := ⟨_, rfl⟩
  rw [hC] at HC HI HONE HSZ
  have HCC := Lib.hid (show C.toList = nums .u8 L by rw [← hC])
  clear h hb hl hle h32 hS hsz hone hC
  go_enter Try.func33, Try.ntmps33
  go_wp2_with fail
  refine HC.out.mono ?_
  rintro e w1 ⟨rfl, hr1, hk1⟩
  have hP1 := HP.out.read hr1 hk1 HLE.out
  have HTH := Lib.hid (show w1.there bo 35 C.size by rw [HSZ.out]; exact hP1.there.2)
  have HP2 := Lib.hid (show PSt Z gr w0 (w1.setCells bo 35 C.toList) B g bo bs q y { m with block := L } lv hv iv dv ev by rw [HCC.out]; exact hP1.blockS HL32.out)
  clear hr1 hk1 hP1
  go_wp2_with ((with_reducible show wpList _ _ _ (Oper.mk _ (Op.store 28 _ _) _ _ _ _ :: _) _ _); (go_loud (refine wpList_store_mid rfl 28 (.tmp 61) (.tmp 59) rfl bo 35 C rfl rfl HTH.out HI.out HONE.out ?_)))
  go_end0
  exact ⟨rfl, by unfold Took; rw [HT.out.1, HT.out.2]; exact ⟨_, _, _, _, _, HP2.out⟩⟩
set_option maxHeartbeats 4000000 in
theorem take_of {Z : Array Value} {gr : Nat} {w0 w : World} {B g bo : Nat} {bs : List Int} {p : Nat} {x : Int} {m : MT} {lv hv iv dv ev : Value} (h : PSt Z gr w0 w B g bo bs p x m lv hv iv dv ev) (hb : ∀ y ∈ bs, 0 ≤ y ∧ y < 256) (hl : bs.length ≤ 100000000) :
    Calls Try.prog 33 #[.pointer (some ⟨bo, 0, none⟩), .pointer (some ⟨g, 0, none⟩), .int .i64 3] w fun e w' => e = .returned (.tuple #[]) ∧ Took Z gr w0 w' B g bo bs (takeF bs 3 m p x) := by
  have HP := Lib.hid h
  have HC := Lib.hid (cnumr_calls h.rd hb h.le hl 1)
  have hle : (numR bs p x 1).2.1 ≤ bs.length := numR_le h.le _ _
  have hby := numR_byte hb p x
  obtain ⟨⟨L, q, y⟩, hS⟩ : ∃ s, numR bs p x 1 = s := ⟨_, rfl⟩
  have HT := Lib.hid (show (takeF bs 3 m p x).2 = (q, y) ∧ (takeF bs 3 m p x).1 = { m with of_ := L } from by
    have e1 : takeF bs 3 m p x = ({ m with of_ := (numR bs p x 1).1 }, (numR bs p x 1).2) := rfl
    rw [e1, hS]
    exact ⟨rfl, rfl⟩)
  rw [hS] at HC hle
  simp only at HC hle
  rw [hS] at hby
  simp only at hby
  have hw : IntKind.i64.wrap L = L := IntWalk.i64_in _ (by omega)
  have hw2 : wrap64 L = L := IntWalk.wrap64_in _ ⟨by omega, by omega⟩
  clear hby
  have HLE := Lib.hid hle
  clear h hb hl hle hS
  go_enter Try.func33, Try.ntmps33
  go_wp2_with fail
  refine HC.out.mono ?_
  rintro e w1 ⟨rfl, hr1, hk1⟩
  have hP1 := HP.out.read hr1 hk1 HLE.out
  have HP2 := Lib.hid (hP1.of L)
  obtain ⟨fz, _, z1, z34, z67, z68, z69, z70, z71, z72⟩ := hP1.cells
  have f1 := fz 71
  clear hr1 hk1 hP1 fz
  go_wp2_with fail
  go_end0
  exact ⟨rfl, by unfold Took; rw [HT.out.1, HT.out.2]; exact ⟨_, _, _, _, _, HP2.out⟩⟩
set_option maxHeartbeats 4000000 in
theorem take_code {Z : Array Value} {gr : Nat} {w0 w : World} {B g bo : Nat} {bs : List Int} {p : Nat} {x : Int} {m : MT} {lv hv iv dv ev : Value} (h : PSt Z gr w0 w B g bo bs p x m lv hv iv dv ev) (hb : ∀ y ∈ bs, 0 ≤ y ∧ y < 256) (hl : bs.length ≤ 100000000) :
    Calls Try.prog 33 #[.pointer (some ⟨bo, 0, none⟩), .pointer (some ⟨g, 0, none⟩), .int .i64 9] w fun e w' => e = .returned (.tuple #[]) ∧ Took Z gr w0 w' B g bo bs (takeF bs 9 m p x) := by
  have HP := Lib.hid h
  have HC := Lib.hid (cnumr_calls h.rd hb h.le hl 1)
  have hle : (numR bs p x 1).2.1 ≤ bs.length := numR_le h.le _ _
  have hby := numR_byte hb p x
  obtain ⟨⟨L, q, y⟩, hS⟩ : ∃ s, numR bs p x 1 = s := ⟨_, rfl⟩
  have HT := Lib.hid (show (takeF bs 9 m p x).2 = (q, y) ∧ (takeF bs 9 m p x).1 = { m with code := L } from by
    have e1 : takeF bs 9 m p x = ({ m with code := (numR bs p x 1).1 }, (numR bs p x 1).2) := rfl
    rw [e1, hS]
    exact ⟨rfl, rfl⟩)
  rw [hS] at HC hle
  simp only at HC hle
  rw [hS] at hby
  simp only at hby
  have hw : IntKind.i64.wrap L = L := IntWalk.i64_in _ (by omega)
  have hw2 : wrap64 L = L := IntWalk.wrap64_in _ ⟨by omega, by omega⟩
  clear hby
  have HLE := Lib.hid hle
  clear h hb hl hle hS
  go_enter Try.func33, Try.ntmps33
  go_wp2_with fail
  refine HC.out.mono ?_
  rintro e w1 ⟨rfl, hr1, hk1⟩
  have hP1 := HP.out.read hr1 hk1 HLE.out
  have HP2 := Lib.hid (hP1.code L)
  obtain ⟨fz, _, z1, z34, z67, z68, z69, z70, z71, z72⟩ := hP1.cells
  have f1 := fz 72
  clear hr1 hk1 hP1 fz
  go_wp2_with fail
  go_end0
  exact ⟨rfl, by unfold Took; rw [HT.out.1, HT.out.2]; exact ⟨_, _, _, _, _, HP2.out⟩⟩
set_option maxHeartbeats 4000000 in
theorem take_nonce {Z : Array Value} {gr : Nat} {w0 w : World} {B g bo : Nat} {bs : List Int} {p : Nat} {x : Int} {m : MT} {lv hv iv dv ev : Value} (h : PSt Z gr w0 w B g bo bs p x m lv hv iv dv ev) (hb : ∀ y ∈ bs, 0 ≤ y ∧ y < 256) (hl : bs.length ≤ 100000000) :
    Calls Try.prog 33 #[.pointer (some ⟨bo, 0, none⟩), .pointer (some ⟨g, 0, none⟩), .int .i64 8] w fun e w' => e = .returned (.tuple #[]) ∧ Took Z gr w0 w' B g bo bs (takeF bs 8 m p x) := by
  have HP := Lib.hid h
  have HC := Lib.hid (cnumr_calls h.rd hb h.le hl 8)
  have hle : (numR bs p x 8).2.1 ≤ bs.length := numR_le h.le _ _
  obtain ⟨⟨L, q, y⟩, hS⟩ : ∃ s, numR bs p x 8 = s := ⟨_, rfl⟩
  have HT := Lib.hid (show (takeF bs 8 m p x).2 = (q, y) ∧ (takeF bs 8 m p x).1 = { m with nonce := L } from by
    have e1 : takeF bs 8 m p x = ({ m with nonce := (numR bs p x 8).1 }, (numR bs p x 8).2) := rfl
    rw [e1, hS]
    exact ⟨rfl, rfl⟩)
  rw [hS] at HC hle
  simp only at HC hle
  have HLE := Lib.hid hle
  clear h hb hl hle hS
  go_enter Try.func33, Try.ntmps33
  go_wp2_with fail
  refine HC.out.mono ?_
  rintro e w1 ⟨rfl, hr1, hk1⟩
  have hP1 := HP.out.read hr1 hk1 HLE.out
  have HP2 := Lib.hid (hP1.nonce L)
  obtain ⟨fz, _, z1, z34, z67, z68, z69, z70, z71, z72⟩ := hP1.cells
  have f1 := fz 70
  clear hr1 hk1 hP1 fz
  go_wp2_with fail
  go_end0
  exact ⟨rfl, by unfold Took; rw [HT.out.1, HT.out.2]; exact ⟨_, _, _, _, _, HP2.out⟩⟩
end Go.Proofs.Ytfcmdhimlfoofaa.Hand


/- The headers, and the entries, are taken: walked (Msg.take); and any field. -/
namespace Go.Proofs.Ytfcmdhimlfoofaa.Hand
open Go Go.RowKit Go.Proofs.Ytfcmdhimlfoofaa.Plain Go.Proofs.Ytfcmdhimlfoofaa.PAll Go.Proofs.YtfcmdhimlfoofaaW.PrintWords Go.Proofs.YtfcmdhimlfoofaaW.PrintLast Go.Proofs.YtfcmdhimlfoofaaW.PrintMore
set_option linter.unusedVariables false
set_option linter.unusedSimpArgs false
set_option maxRecDepth 100000
attribute [local go_sem ↓] Go.wp_at_zero Go.wp_at_succ
attribute [-go_sem] Instr.buildSlice
theorem infoHH3 : (Try.prog.info? 54).map (fun i => (i.zero, i.size, i.bytes)) = some (some (.agg (hcells 0 z32 z32 0 0 0).toArray), 68, 80) := by kernel_rfl
theorem run_hd1 (x : HT) (hp : x.p.length = 32) (hr : x.r.length = 32) (W : World) : (Instr.buildSlice 29 1 #[(0, .agg (hcT x).toArray)]).run Try.prog W = .ok (.slice (some ⟨W.heap.size, 0, none⟩) 1 1) (W.alloc (.cells (hcT x).toArray 54)) := by
  obtain ⟨v, p, r, t, b, n⟩ := x
  simp only at hp hr
  obtain ⟨x0, x1, x2, x3, x4, x5, x6, x7, x8, x9, x10, x11, x12, x13, x14, x15, x16, x17, x18, x19, x20, x21, x22, x23, x24, x25, x26, x27, x28, x29, x30, x31, rfl⟩ := list32 p hp
  obtain ⟨y0, y1, y2, y3, y4, y5, y6, y7, y8, y9, y10, y11, y12, y13, y14, y15, y16, y17, y18, y19, y20, y21, y22, y23, y24, y25, y26, y27, y28, y29, y30, y31, rfl⟩ := list32 r hr
  kernel_rfl
theorem kHd_MT {w : World} {base : Nat} {ok : Nat → Prop} {x : HT} (hp : x.p.length = 32) (hr : x.r.length = 32) : kHd.M w base ok x (hcT x) :=
  ⟨[.int .u32 x.v], _, rfl, rfl, nums .u8 x.p, _, rfl, kH_M hp, nums .u8 x.r, _, rfl, kH_M hr, [.int .u32 x.t], _, rfl, rfl, [.int .u32 x.b], _, rfl, rfl, rfl⟩
theorem takeR_short {bs : List Int} (p : Nat) (x n : Int) : (takeR bs p x n).1.length ≤ bs.length := by
  unfold takeR
  split
  · simp
  split
  · simp
  · simp only [List.length_take, List.length_drop]
    omega
theorem headV_eq (tb : List Int) : (if headE tb = 0 then hV ((h1R tb).1 % 4294967296) (h2R tb).1 (h3R tb).1 ((h4R tb).1 % 4294967296) ((h5R tb).1 % 4294967296) ((h6R tb).1 % 4294967296) else hV 0 z32 z32 0 0 0) = .agg (hcT (headT tb)).toArray := by
  unfold headT hV hcT
  split <;> rfl
set_option maxHeartbeats 4000000 in
theorem take_heads {Z : Array Value} {gr : Nat} {w0 w : World} {B g bo : Nat} {bs : List Int} {p : Nat} {x : Int} {m : MT} {lv hv iv dv ev : Value} (h : PSt Z gr w0 w B g bo bs p x m lv hv iv dv ev) (hb : ∀ y ∈ bs, 0 ≤ y ∧ y < 256) (hl : bs.length ≤ 100000000) (hh : m.heads = []) :
    Calls Try.prog 33 #[.pointer (some ⟨bo, 0, none⟩), .pointer (some ⟨g, 0, none⟩), .int .i64 2] w fun e w' => e = .returned (.tuple #[]) ∧ Took Z gr w0 w' B g bo bs (takeF bs 2 m p x) := by
  have HP := Lib.hid h
  have hu := varR_u64 hb p x (most := 2000) (by decide)
  have hvl := varR_le h.le x 2000
  have HV := Lib.hid (cvarr_calls h.rd hb h.le hl 2000)
  have hT : takeF bs 2 m p x = ({ m with heads := (headsS bs (varR bs p x 2000).2.1 (varR bs p x 2000).2.2 (varR bs p x 2000).1.toNat).1 }, (headsS bs (varR bs p x 2000).2.1 (varR bs p x 2000).2.2 (varR bs p x 2000).1.toNat).2) := rfl
  rw [hT]
  obtain ⟨n, hn⟩ : ∃ n : Nat, (varR bs p x 2000).1 = (n : Int) := Int.eq_ofNat_of_zero_le hu.1
  obtain ⟨p1, hp1⟩ : ∃ q, (varR bs p x 2000).2.1 = q := ⟨_, rfl⟩
  obtain ⟨x1, hx1⟩ : ∃ q, (varR bs p x 2000).2.2 = q := ⟨_, rfl⟩
  rw [hn, hp1, hx1] at HV
  rw [hn, hp1, hx1, Int.toNat_natCast]
  rw [hn] at hu
  rw [hp1] at hvl
  have HN := Lib.hid (show n ≤ 2000 by omega)
  have HPL := Lib.hid hvl
  have HL := Lib.hid hl
  have HBY := Lib.hid hb
  have HM0 := Lib.hid (show m = { m with heads := [] } by rw [← hh])
  have hzF := (zero_of_info infoH).1
  obtain ⟨ZF, hZF⟩ : ∃ C, (hcells 0 z32 z32 0 0 0).toArray = C := ⟨_, rfl⟩
  rw [hZF] at hzF
  have HZF := Lib.hid (show ZF.size = 68 by rw [← hZF]; simp; rw [hcells_len _ _ _ _ _ _ (by decide) (by decide)])
  have HUH := Lib.hid Try.underlying54
  clear h hb hl hu hvl hT hn hp1 hx1 hh hZF
  go_enter Try.func33, Try.ntmps33
  go_wp2_with fail
  refine HV.out.mono ?_
  rintro e w1 ⟨rfl, hr1, hk1⟩
  have HP1 := Lib.hid (HP.out.read hr1 hk1 HPL.out)
  clear hr1 hk1 HV
  go_wp2_with fail
  go_loopw [28] (fun i wr => ∃ k : Nat, k ≤ n ∧ i = .int .u64 (k : Int) ∧ Hid (∃ hv, PSt Z gr w0 wr B g bo bs (headsS bs p1 x1 k).2.1 (headsS bs p1 x1 k).2.2 { m with heads := (headsS bs p1 x1 k).1 } lv hv iv dv ev)) (fun i _ => n + 1 - (intOf i).toNat)
  case atStart => exact ⟨0, Nat.zero_le _, rfl, Lib.hid ⟨hv, by have := HP1.out; rw [HM0.out] at this; exact this⟩⟩
  case round =>
    obtain ⟨k, hk, rfl, H⟩ := hrel
    obtain ⟨hv', hP⟩ := H.out
    by_cases hlt : k < n
    · have b1 : decide ((k : Int) < (n : Int)) = true := decide_eq_true (by omega)
      obtain ⟨wk, wk'⟩ := u64_step hlt (by have := HN.out; omega)
      have hst : headsS bs p1 x1 (k + 1) = ((headsS bs p1 x1 k).1 ++ [headT (takeR bs (headsS bs p1 x1 k).2.1 (headsS bs p1 x1 k).2.2 80).1], (takeR bs (headsS bs p1 x1 k).2.1 (headsS bs p1 x1 k).2.2 80).2) := rfl
      have hln := headsS_len bs p1 x1 k
      obtain ⟨⟨L, q, y⟩, hS⟩ : ∃ s, headsS bs p1 x1 k = s := ⟨_, rfl⟩
      rw [hS] at hP hst hln
      simp only at hP hst hln
      have HC := Lib.hid (ctake_calls hP.rd hP.le HL.out 80 (by decide))
      have hle2 := takeR_le hP.le y 80
      have hby2 := takeR_bytes HBY.out q y 80
      have hsh2 := takeR_short (bs := bs) q y 80
      obtain ⟨⟨tb, q2, y2⟩, hH⟩ : ∃ s, takeR bs q y 80 = s := ⟨_, rfl⟩
      rw [hH] at HC hst hle2 hby2 hsh2
      simp only at HC hst hle2 hby2 hsh2
      have HST := Lib.hid hst
      have HPK := Lib.hid hP
      have HLE2 := Lib.hid hle2
      have HPA := Lib.hid (show ∀ (A : Option Addr) (c : Nat) (W : World), Kd.C (Kd.int .u8) W A tb.length tb → tb.length ≤ c → Calls Try.prog 56 #[.slice A tb.length c] W fun e w' => e = .returned (.tuple #[.agg (hcT (headT tb)).toArray, .int .i64 (headE tb)]) ∧ Below W.heap.size W w' from fun A c W hr hc => by
        have h1 := hparse_calls A c tb W hr hc hby2 (by have := HL.out; omega)
        rw [headV_eq] at h1
        exact h1)
      obtain ⟨h32p, h32r⟩ := headT_len tb
      have hbs := fun u => run_hd1 (headT tb) h32p h32r u
      have hcm := fun (u : World) => kHd_MT (w := u) (base := g + 1) (ok := fun _ => False) h32p h32r
      have hcl := hcT_len h32p h32r
      have hone := hcells_one1 (headT tb).v (headT tb).p (headT tb).r (headT tb).t (headT tb).b (headT tb).n
      obtain ⟨hx, hhx⟩ : ∃ z, headT tb = z := ⟨_, rfl⟩
      rw [hhx] at HPA hbs hcm hcl hone hst HST
      obtain ⟨C', hC'⟩ : ∃ C', hcT hx = C' := ⟨_, rfl⟩
      have hC2 : hcells hx.v hx.p hx.r hx.t hx.b hx.n = C' := hC'
      rw [hC'] at HPA hbs hcm hcl
      rw [hC2] at hone
      obtain ⟨nt, hnt⟩ : ∃ z, tb.length = z := ⟨_, rfl⟩
      obtain ⟨he, hhe⟩ : ∃ z, headE tb = z := ⟨_, rfl⟩
      rw [hnt, hhe] at HPA
      have HNT := Lib.hid hnt
      have HF := Lib.hid (show (Try.prog.info? 54).map (·.size) = some C'.length ∧ (Try.prog.info? 54).map (·.size) = some C'.toArray.size ∧ ZF.size = C'.toArray.size ∧ C'.toArray.all (·.oneCell') = true from
        ⟨by rw [hcl]; exact (zero_of_info infoH).2, by rw [List.size_toArray, hcl]; exact (zero_of_info infoH).2, HZF.out.trans (by rw [List.size_toArray, hcl]), all_oneCell_toArray hone⟩)
      have hi := HF.out.1
      have HCM := Lib.hid hcm
      have HTL := Lib.hid (show (L.length + 1) * 80 ≤ 140737488355328 by have := HN.out; omega)
      have HLT := Lib.hid hlt
      clear hP hle2 hby2 hsh2 hst hln hS hH h32p h32r hcm hcl hone hhx hC' hC2 hnt hhe H hk hlt
      go_wp2_with fail
      refine HC.out.mono ?_
      rintro e w2 ⟨v, rfl, hv2, hr2, hk2⟩
      have hP2 := HPK.out.read hr2 hk2 HLE2.out
      obtain ⟨A2, c2, rfl, hc2, hC2⟩ := Kd.R_reads hv2
      rw [HNT.out] at hc2 ⊢
      have HCP := Lib.hid (HPA.out A2 c2 w2 (by rw [← HNT.out]; exact hC2) hc2)
      have HP2 := Lib.hid hP2
      clear hv2 hr2 hk2 hP2 hc2 hC2 HC HPA
      go_wp2_with fail
      refine HCP.out.mono ?_
      rintro e w3 ⟨rfl, hb3⟩
      have hP3 := HP2.out.below hb3
      have hPA := hP3.below (below_alloc (Below.refl _ _) (.cells C'.toArray 54))
      have hPD := hPA.below (below_drew (Below.refl _ _))
      have HPD := Lib.hid hPD
      obtain ⟨fz, _, _, x34, _⟩ := hPD.cells
      obtain ⟨A1, c1, hlv⟩ := Kd.R_slice hPD.rh
      simp only at hlv
      subst hlv
      have hnk := heap_alloc_new w3 (.cells C'.toArray 54)
      have hbne : bo ≠ w3.heap.size := by have := hP3.lt; omega
      have hnkD : (w3.alloc (.cells C'.toArray 54)).drew.heap[w3.heap.size]? = some (.cells C'.toArray 54 (0, 0)) := hnk
      have HS0 := Lib.hid (show (w3.alloc (.cells C'.toArray 54)).drew.rangeAt w3.heap.size 0 C' from fun j v hj => by
        rw [Nat.zero_add, blk_cell hnkD, List.getElem?_toArray]
        exact hj)
      have HS1 := Lib.hid (show ((w3.alloc (.cells C'.toArray 54)).drew.alloc (.cells C'.toArray 54)).rangeAt w3.heap.size 0 C' from fun j v hj => by
        rw [Nat.zero_add, blk_cell (blk_alloc hnkD _), List.getElem?_toArray]
        exact hj)
      obtain ⟨_, _, _, x34b, _⟩ := (hPA.below (below_alloc (Below.refl _ _) (.cells C'.toArray 54))).cells
      have HSZD := Lib.hid (show w3.heap.size + 1 = (w3.alloc (.cells C'.toArray 54)).drew.heap.size from (World.size_alloc w3 (.cells C'.toArray 54)).symm)
      have HSG := Lib.hid (show ∀ (w4 : World), (w3.alloc (.cells C'.toArray 54)).drew.grownBy w4 (Value.slice A1 L.length c1).ownBlock → w4.rangeAt w3.heap.size 0 C' from fun w4 hg4 j v hj => by
        have h3 := (hg4.block _ (blk_lt hnkD) (fun e => by have h9 := Kd.R_lt hP3.rh _ e.symm; omega)).trans hnkD
        rw [Nat.zero_add, blk_cell h3, List.getElem?_toArray]
        exact hj)
      have HSF := Lib.hid (show ∀ (u : World) (z : Value), u.rangeAt w3.heap.size 0 C' → (u.setCell ⟨bo, 34, none⟩ z).rangeAt w3.heap.size 0 C' from fun u z hu j v hj => by
        have h1 := hu j v hj
        unfold World.cell? at h1 ⊢
        rw [show (u.setCell ⟨bo, 34, none⟩ z).heap[w3.heap.size]? = u.heap[w3.heap.size]? from Below.heap_setCell u ⟨bo, 34, none⟩ z w3.heap.size (fun e => hbne e.symm)]
        exact h1)
      have HGL := Lib.hid (show g + 1 ≤ (w3.alloc (.cells C'.toArray 54)).drew.heap.size from HPD.out.rd.lt)
      have hu := HUH.out
      clear hP3 hPA hPD fz hnk hnkD hbne hb3
      go_wp2_with ((with_reducible show wpList _ _ _ (Oper.mk _ (Op.store _ (.tmp 6) _) _ _ _ _ :: _) _ _); (go_loud (refine wpl_store_new rfl 54 (.tmp 6) (.tmp 34) rfl ZF C'.toArray rfl rfl HF.out.2.1 HF.out.2.2.1 HF.out.2.2.2 ?_)))
      refine wp_region_held (S := fun u => u.rangeAt w3.heap.size 0 C') (by kernel_rfl) ?_
      change wpAnyH _ _ _ _ _ _ _ _ (World.drew _)
      have hHeld := HS0.out
      refine wpAnyH_take (i := 0) (oi := ({ dst := some 36, op := Op.move (Operand.tmp 0), type := 92, pos := "msg.go:226", after := #[], guard := none } : Oper)) (v := .pointer (some ⟨bo, 0, none⟩)) rfl (by kernel_rfl) (by kernel_rfl) (by kernel_rfl) (fun _ _ _ h => h) (Or.inl ⟨by rfl, fun w hSw => by go_simp⟩) hHeld ?_
      simp only [Act.put, List.setIfInBounds_toArray, List.set_cons_zero, List.set_cons_succ]
      refine wpAnyH_take (i := 1) (oi := ({ dst := some 37, op := Op.move (Operand.tmp 0), type := 92, pos := "msg.go:226", after := #[], guard := none } : Oper)) (v := .pointer (some ⟨bo, 0, none⟩)) rfl (by kernel_rfl) (by kernel_rfl) (by kernel_rfl) (fun _ _ _ h => h) (Or.inl ⟨by rfl, fun w hSw => by go_simp⟩) hHeld ?_
      simp only [Act.put, List.setIfInBounds_toArray, List.set_cons_zero, List.set_cons_succ]
      refine wpAnyH_take (i := 2) (oi := ({ dst := some 38, op := Op.nilCheck (Operand.tmp 37), type := 0, pos := "msg.go:226", after := #[{ on := 1, ground := Ground.data }], guard := none } : Oper)) (v := .pointer (some ⟨bo, 0, none⟩)) rfl (by kernel_rfl) (by kernel_rfl) (by kernel_rfl) (fun _ _ _ h => h) (Or.inl ⟨by rfl, fun w hSw => by go_simp⟩) hHeld ?_
      simp only [Act.put, List.setIfInBounds_toArray, List.set_cons_zero, List.set_cons_succ]
      refine wpAnyH_take (i := 3) (oi := ({ dst := some 39, op := Op.fieldAddr 33 (Operand.tmp 38) 3, type := 0, pos := "msg.go:226", after := #[{ on := 2, ground := Ground.data }], guard := none } : Oper)) (v := .pointer (some ⟨bo, 34, none⟩)) rfl (by kernel_rfl) (by kernel_rfl) (by kernel_rfl) (fun _ _ _ h => h) (Or.inl ⟨by rfl, fun w hSw => by go_simp⟩) hHeld ?_
      simp only [Act.put, List.setIfInBounds_toArray, List.set_cons_zero, List.set_cons_succ]
      refine wpAnyH_take (i := 5) (oi := ({ dst := some 41, op := Op.load 54 (Operand.tmp 6), type := 54, pos := "msg.go:226", after := #[], guard := none } : Oper)) (v := .agg C'.toArray) rfl (by kernel_rfl) (by kernel_rfl) (by kernel_rfl) (fun _ _ _ h => h) (yieldsIf_load_mid (by rfl) _ _ rfl w3.heap.size 0 rfl C' _ (fun _ h => h) hu rfl hi) hHeld ?_
      simp only [Act.put, List.setIfInBounds_toArray, List.set_cons_zero, List.set_cons_succ]
      refine wpAnyH_ready (rs := [4, 6]) (by kernel_rfl) (by simp) ?_
      refine AllReadyH.cons (o := ({ dst := some 40, op := Op.load 29 (Operand.tmp 39), type := 29, pos := "msg.go:226", after := #[{ on := 3, ground := Ground.data }], guard := none } : Oper)) rfl (fun K hK => ?_) (AllReadyH.cons (o := ({ dst := some 42, op := Op.buildSlice 29 1 #[(0, Operand.tmp 41)], type := 29, pos := "msg.go:226", after := #[{ on := 5, ground := Ground.data }], guard := none } : Oper)) rfl (fun K hK => ?_) AllReadyH.nil)
      focus
        go_simp
        refine hK.out _ _ (HS0.out) (fun hHeld => ?_)
        clear hK K
        try simp only [Act.put, List.setIfInBounds_toArray, List.set_cons_zero, List.set_cons_succ]
        refine wpAnyH_ready (rs := [6]) (by kernel_rfl) (by simp) ?_
        refine AllReadyH.cons (o := ({ dst := some 42, op := Op.buildSlice 29 1 #[(0, Operand.tmp 41)], type := 29, pos := "msg.go:226", after := #[{ on := 5, ground := Ground.data }], guard := none } : Oper)) rfl (fun K hK => ?_) AllReadyH.nil
        go_simp
        refine hK.out _ _ (HS1.out) (fun hHeld => ?_)
        clear hK K
        try simp only [Act.put, List.setIfInBounds_toArray, List.set_cons_zero, List.set_cons_succ]
        refine wpAnyH_ready (rs := [7]) (by kernel_rfl) (by simp) ?_
        refine AllReadyH.cons (o := ({ dst := some 43, op := Op.call { callee := Callee.builtin Builtin.append, args := #[Operand.tmp 40, Operand.tmp 42], argTypes := #[29, 29] }, type := 29, pos := "msg.go:226", after := #[{ on := 4, ground := Ground.data }, { on := 6, ground := Ground.data }], guard := none } : Oper)) rfl (fun K hK => ?_) AllReadyH.nil
        refine Kd.R_append_step kHd (W := (w3.alloc (.cells C'.toArray 54)).drew) (w0 := (w3.alloc (.cells C'.toArray 54)).drew) (g + 1) (by rfl) (.tmp 40) (.tmp 42) 29 54 (.agg (hcells 0 z32 z32 0 0 0).toArray) 80 (by rfl) Try.underlying29 infoHH3 (by rfl) (by decide) (by decide) (.slice A1 L.length c1) L hx C' (fun k => k ≠ g) (fun _ => False) (by rfl) (by rw [← HSZD.out]; rfl) (HCM.out _) (fun _ h => h.elim) (fun k hk => by have := HGL.out; omega) HPD.out.rh (Below.refl _ _) (by have := HGL.out; omega) HTL.out ?_
        intro v4 w4 ho hb hg hat
        obtain ⟨A4, n4, c4, rfl, f4, z4, hP4⟩ := PSt.pushH HPD.out ho hb hg
        have HP4 := Lib.hid hP4
        have s4 := HSG.out w4 hg
        have s5 := HSF.out w4 (.slice A4 n4 c4) s4
        clear ho hb hg hat hP4
        refine hK.out _ _ (s4) (fun hHeld => ?_)
        clear hK K
        try simp only [Act.put, List.setIfInBounds_toArray, List.set_cons_zero, List.set_cons_succ]
        refine wpAnyH_take (i := 8) (oi := ({ dst := some 44, op := Op.nilCheck (Operand.tmp 36), type := 0, pos := "msg.go:226", after := #[{ on := 0, ground := Ground.data }, { on := 0, ground := Ground.phase }, { on := 1, ground := Ground.phase }, { on := 2, ground := Ground.phase }, { on := 3, ground := Ground.phase }, { on := 4, ground := Ground.phase }, { on := 5, ground := Ground.phase }, { on := 6, ground := Ground.phase }, { on := 7, ground := Ground.phase }], guard := none } : Oper)) (v := .pointer (some ⟨bo, 0, none⟩)) rfl (by kernel_rfl) (by kernel_rfl) (by kernel_rfl) (fun _ _ _ h => h) (Or.inl ⟨by rfl, fun w hSw => by go_simp⟩) hHeld ?_
        simp only [Act.put, List.setIfInBounds_toArray, List.set_cons_zero, List.set_cons_succ]
        refine wpAnyH_take (i := 9) (oi := ({ dst := some 45, op := Op.fieldAddr 33 (Operand.tmp 44) 3, type := 0, pos := "msg.go:226", after := #[{ on := 8, ground := Ground.data }, { on := 0, ground := Ground.phase }, { on := 1, ground := Ground.phase }, { on := 2, ground := Ground.phase }, { on := 3, ground := Ground.phase }, { on := 4, ground := Ground.phase }, { on := 5, ground := Ground.phase }, { on := 6, ground := Ground.phase }, { on := 7, ground := Ground.phase }], guard := none } : Oper)) (v := .pointer (some ⟨bo, 34, none⟩)) rfl (by kernel_rfl) (by kernel_rfl) (by kernel_rfl) (fun _ _ _ h => h) (Or.inl ⟨by rfl, fun w hSw => by go_simp⟩) hHeld ?_
        simp only [Act.put, List.setIfInBounds_toArray, List.set_cons_zero, List.set_cons_succ]
        refine wpAnyH_ready (rs := [10]) (by kernel_rfl) (by simp) ?_
        refine AllReadyH.cons (o := ({ dst := none, op := Op.store 29 (Operand.tmp 45) (Operand.tmp 43), type := 0, pos := "msg.go:226", after := #[{ on := 9, ground := Ground.data }, { on := 7, ground := Ground.data }, { on := 7, ground := Ground.chain }, { on := 0, ground := Ground.phase }, { on := 1, ground := Ground.phase }, { on := 2, ground := Ground.phase }, { on := 3, ground := Ground.phase }, { on := 4, ground := Ground.phase }, { on := 5, ground := Ground.phase }, { on := 6, ground := Ground.phase }, { on := 7, ground := Ground.phase }], guard := none } : Oper)) rfl (fun K hK => ?_) AllReadyH.nil
        go_simp
        refine hK.out _ _ (s5) (fun hHeld => ?_)
        clear hK K
        try simp only [Act.put, List.setIfInBounds_toArray, List.set_cons_zero, List.set_cons_succ]
        refine wpAnyH_done (by kernel_rfl) ?_ _
        clear hHeld s4 s5 f4 z4 x34 x34b hbs
        go_wp2_with fail
        go_roundw
        case rel => exact ⟨k + 1, by have := HLT.out; omega, by first | rfl | (rw [wk]) | (rw [wk']) | simp, Lib.hid ⟨_, by rw [HST.out]; exact HP4.out⟩⟩
        case measure => exact meas_u HLT.out (by first | exact wk | exact wk' | simp)
      focus
        go_simp
        refine hK.out _ _ (HS1.out) (fun hHeld => ?_)
        clear hK K
        try simp only [Act.put, List.setIfInBounds_toArray, List.set_cons_zero, List.set_cons_succ]
        refine wpAnyH_ready (rs := [4]) (by kernel_rfl) (by simp) ?_
        refine AllReadyH.cons (o := ({ dst := some 40, op := Op.load 29 (Operand.tmp 39), type := 29, pos := "msg.go:226", after := #[{ on := 3, ground := Ground.data }], guard := none } : Oper)) rfl (fun K hK => ?_) AllReadyH.nil
        go_simp
        refine hK.out _ _ (HS1.out) (fun hHeld => ?_)
        clear hK K
        try simp only [Act.put, List.setIfInBounds_toArray, List.set_cons_zero, List.set_cons_succ]
        refine wpAnyH_ready (rs := [7]) (by kernel_rfl) (by simp) ?_
        refine AllReadyH.cons (o := ({ dst := some 43, op := Op.call { callee := Callee.builtin Builtin.append, args := #[Operand.tmp 40, Operand.tmp 42], argTypes := #[29, 29] }, type := 29, pos := "msg.go:226", after := #[{ on := 4, ground := Ground.data }, { on := 6, ground := Ground.data }], guard := none } : Oper)) rfl (fun K hK => ?_) AllReadyH.nil
        refine Kd.R_append_step kHd (W := (w3.alloc (.cells C'.toArray 54)).drew) (w0 := (w3.alloc (.cells C'.toArray 54)).drew) (g + 1) (by rfl) (.tmp 40) (.tmp 42) 29 54 (.agg (hcells 0 z32 z32 0 0 0).toArray) 80 (by rfl) Try.underlying29 infoHH3 (by rfl) (by decide) (by decide) (.slice A1 L.length c1) L hx C' (fun k => k ≠ g) (fun _ => False) (by rfl) (by rw [← HSZD.out]; rfl) (HCM.out _) (fun _ h => h.elim) (fun k hk => by have := HGL.out; omega) HPD.out.rh (Below.refl _ _) (by have := HGL.out; omega) HTL.out ?_
        intro v4 w4 ho hb hg hat
        obtain ⟨A4, n4, c4, rfl, f4, z4, hP4⟩ := PSt.pushH HPD.out ho hb hg
        have HP4 := Lib.hid hP4
        have s4 := HSG.out w4 hg
        have s5 := HSF.out w4 (.slice A4 n4 c4) s4
        clear ho hb hg hat hP4
        refine hK.out _ _ (s4) (fun hHeld => ?_)
        clear hK K
        try simp only [Act.put, List.setIfInBounds_toArray, List.set_cons_zero, List.set_cons_succ]
        refine wpAnyH_take (i := 8) (oi := ({ dst := some 44, op := Op.nilCheck (Operand.tmp 36), type := 0, pos := "msg.go:226", after := #[{ on := 0, ground := Ground.data }, { on := 0, ground := Ground.phase }, { on := 1, ground := Ground.phase }, { on := 2, ground := Ground.phase }, { on := 3, ground := Ground.phase }, { on := 4, ground := Ground.phase }, { on := 5, ground := Ground.phase }, { on := 6, ground := Ground.phase }, { on := 7, ground := Ground.phase }], guard := none } : Oper)) (v := .pointer (some ⟨bo, 0, none⟩)) rfl (by kernel_rfl) (by kernel_rfl) (by kernel_rfl) (fun _ _ _ h => h) (Or.inl ⟨by rfl, fun w hSw => by go_simp⟩) hHeld ?_
        simp only [Act.put, List.setIfInBounds_toArray, List.set_cons_zero, List.set_cons_succ]
        refine wpAnyH_take (i := 9) (oi := ({ dst := some 45, op := Op.fieldAddr 33 (Operand.tmp 44) 3, type := 0, pos := "msg.go:226", after := #[{ on := 8, ground := Ground.data }, { on := 0, ground := Ground.phase }, { on := 1, ground := Ground.phase }, { on := 2, ground := Ground.phase }, { on := 3, ground := Ground.phase }, { on := 4, ground := Ground.phase }, { on := 5, ground := Ground.phase }, { on := 6, ground := Ground.phase }, { on := 7, ground := Ground.phase }], guard := none } : Oper)) (v := .pointer (some ⟨bo, 34, none⟩)) rfl (by kernel_rfl) (by kernel_rfl) (by kernel_rfl) (fun _ _ _ h => h) (Or.inl ⟨by rfl, fun w hSw => by go_simp⟩) hHeld ?_
        simp only [Act.put, List.setIfInBounds_toArray, List.set_cons_zero, List.set_cons_succ]
        refine wpAnyH_ready (rs := [10]) (by kernel_rfl) (by simp) ?_
        refine AllReadyH.cons (o := ({ dst := none, op := Op.store 29 (Operand.tmp 45) (Operand.tmp 43), type := 0, pos := "msg.go:226", after := #[{ on := 9, ground := Ground.data }, { on := 7, ground := Ground.data }, { on := 7, ground := Ground.chain }, { on := 0, ground := Ground.phase }, { on := 1, ground := Ground.phase }, { on := 2, ground := Ground.phase }, { on := 3, ground := Ground.phase }, { on := 4, ground := Ground.phase }, { on := 5, ground := Ground.phase }, { on := 6, ground := Ground.phase }, { on := 7, ground := Ground.phase }], guard := none } : Oper)) rfl (fun K hK => ?_) AllReadyH.nil
        go_simp
        refine hK.out _ _ (s5) (fun hHeld => ?_)
        clear hK K
        try simp only [Act.put, List.setIfInBounds_toArray, List.set_cons_zero, List.set_cons_succ]
        refine wpAnyH_done (by kernel_rfl) ?_ _
        clear hHeld s4 s5 f4 z4 x34 x34b hbs
        go_wp2_with fail
        go_roundw
        case rel => exact ⟨k + 1, by have := HLT.out; omega, by first | rfl | (rw [wk]) | (rw [wk']) | simp, Lib.hid ⟨_, by rw [HST.out]; exact HP4.out⟩⟩
        case measure => exact meas_u HLT.out (by first | exact wk | exact wk' | simp)
    · have hkn : k = n := by omega
      rw [hkn] at hP
      have b1 : decide ((k : Int) < (n : Int)) = false := decide_eq_false (by omega)
      have b2 : (k < n) = False := eq_false (by omega)
      have HPF := Lib.hid hP
      clear hP H hlt hk hkn
      go_wp2_with fail
      go_end0
      exact ⟨rfl, _, _, _, _, _, HPF.out⟩
theorem infoBE3 : (Try.prog.info? 67).map (fun i => (i.zero, i.size, i.bytes)) = some (some (.agg #[.slice none 0 0, .int .i64 0, .int .i64 0, .slice none 0 0]), 4, 64) := by kernel_rfl
theorem infoBE : (Try.prog.info? 67).map (fun i => (i.zero, i.size)) = some (some (.agg #[.slice none 0 0, .int .i64 0, .int .i64 0, .slice none 0 0]), 4) := by kernel_rfl
theorem built_be (A : Option Addr) (n c : Nat) : Try.prog.built 67 [(0, .slice A n c)] = some #[.slice A n c, .int .i64 0, .int .i64 0, .slice none 0 0] := by kernel_rfl
theorem run_be1 (A : Option Addr) (n c : Nat) (cnt idx : Int) (A2 : Option Addr) (n2 c2 : Nat) (W : World) : (Instr.buildSlice 30 1 #[(0, .agg #[.slice A n c, .int .i64 cnt, .int .i64 idx, .slice A2 n2 c2])]).run Try.prog W = .ok (.slice (some ⟨W.heap.size, 0, none⟩) 1 1) (W.alloc (.cells #[.slice A n c, .int .i64 cnt, .int .i64 idx, .slice A2 n2 c2] 67)) := by
  kernel_rfl
theorem R_apartT {α β : Type} {d : Kd α} {d' : Kd β} {e e' : Nat} {w : World} {base b' : Nat} {ok ok' : Nat → Prop} {v u : Value} {xs : List α} {ys : List β} (h : d.R e w base ok v xs) (hu : d'.R e' w b' ok' u ys) (ht : ∀ q, q ∈ e :: d.E → q ≠ e') : d.R e w base (fun k => ok k ∧ some k ≠ u.ownBlock) v xs := by
  cases hb : u.ownBlock with
  | none => exact Kd.R_mono h (fun k hk => ⟨hk, by simp⟩)
  | some b =>
    obtain ⟨inner, ho⟩ := Kd.R_own hu
    obtain ⟨cells, hc⟩ := own_typed ho b hb
    exact Kd.R_mono (Kd.R_types h hc ht) (fun k hk => ⟨hk.1, fun e => hk.2 (Option.some.inj e)⟩)
theorem kE_M {w : World} {base : Nat} {ok : Nat → Prop} {x : ET} {v1 v2 : Value} (h1 : Kd.R (Kd.int .u8) 5 w base ok v1 x.tx) (h2 : Kd.R kH 28 w base ok v2 x.path) : kE.M w base ok x [v1, .int .i64 x.cnt, .int .i64 x.idx, v2] :=
  ⟨[v1], _, rfl, ⟨v1, rfl, h1⟩, [.int .i64 x.cnt], _, rfl, rfl, [.int .i64 x.idx], _, rfl, rfl, v2, rfl, h2⟩
theorem be_set (a b c d v : Value) : (#[a, b, c, d] : Array Value).setIfInBounds 1 v = #[a, v, c, d] ∧ (#[a, b, c, d] : Array Value).setIfInBounds 2 v = #[a, b, v, d] ∧ (#[a, b, c, d] : Array Value).setIfInBounds 3 v = #[a, b, c, v] := ⟨rfl, rfl, rfl⟩
/-- An entry under way in block eb, made in w2. -/
structure ESt (w2 W : World) (B g : Nat) (bs : List Int) (q : Nat) (y : Int) (C : Array Value) : Prop where
  blk : W.heap[w2.heap.size]? = some (.cells C 67 (0, 0))
  keep : RKeep w2 W B g
  rd : IsR W B g bs (q : Int) y
  lt : g < w2.heap.size
section
variable {w2 W W' : World} {B g q q' : Nat} {bs : List Int} {y y' : Int} {C : Array Value}
theorem ESt.new (hr : IsR w2 B g bs (q : Int) y) : ESt w2 (w2.alloc (.cells C 67)) B g bs q y C :=
  ⟨by simpa using heap_alloc_new w2 _, (RKeep.refl w2 B g).below (by have := hr.1; have := hr.lt; omega) (below_alloc (Below.refl _ _) _), hr.alloc _, hr.lt⟩
theorem ESt.read (h : ESt w2 W B g bs q y C) (hr : IsR W' B g bs (q' : Int) y') (hk : RKeep W W' B g) : ESt w2 W' B g bs q' y' C :=
  ⟨hk.2.blk h.blk (by have := h.lt; omega) (by simp), h.keep.trans hk, hr, h.lt⟩
theorem ESt.set (h : ESt w2 W B g bs q y C) (j : Nat) (v : Value) : ESt w2 (W.setCell ⟨w2.heap.size, j, none⟩ v) B g bs q y (C.setIfInBounds j v) :=
  ⟨blk_set h.blk j v, keep_grown h.keep ((Below.refl _ _).setCell (p := ⟨w2.heap.size, j, none⟩) (Nat.le_refl _) v) (by have := h.rd.1; have := h.lt; omega), h.rd.below (B' := w2.heap.size) ((Below.refl _ _).setCell (p := ⟨w2.heap.size, j, none⟩) (Nat.le_refl _) v) h.lt, h.lt⟩
end
set_option maxHeartbeats 8000000 in
theorem take_ents {Z : Array Value} {gr : Nat} {w0 w : World} {B g bo : Nat} {bs : List Int} {p : Nat} {x : Int} {m : MT} {lv hv iv dv ev : Value} (h : PSt Z gr w0 w B g bo bs p x m lv hv iv dv ev) (hb : ∀ y ∈ bs, 0 ≤ y ∧ y < 256) (hl : bs.length ≤ 100000000) (hh : m.ents = []) :
    Calls Try.prog 33 #[.pointer (some ⟨bo, 0, none⟩), .pointer (some ⟨g, 0, none⟩), .int .i64 7] w fun e w' => e = .returned (.tuple #[]) ∧ Took Z gr w0 w' B g bo bs (takeF bs 7 m p x) := by
  have HP := Lib.hid h
  have hu := varR_u64 hb p x (most := 16) (by decide)
  have hvl := varR_le h.le x 16
  have HV := Lib.hid (cvarr_calls h.rd hb h.le hl 16)
  have hT : takeF bs 7 m p x = ({ m with ents := (entsS bs (varR bs p x 16).2.1 (varR bs p x 16).2.2 (varR bs p x 16).1.toNat).1 }, (entsS bs (varR bs p x 16).2.1 (varR bs p x 16).2.2 (varR bs p x 16).1.toNat).2) := rfl
  rw [hT]
  obtain ⟨n, hn⟩ : ∃ n : Nat, (varR bs p x 16).1 = (n : Int) := Int.eq_ofNat_of_zero_le hu.1
  obtain ⟨p1, hp1⟩ : ∃ q, (varR bs p x 16).2.1 = q := ⟨_, rfl⟩
  obtain ⟨x1, hx1⟩ : ∃ q, (varR bs p x 16).2.2 = q := ⟨_, rfl⟩
  rw [hn, hp1, hx1] at HV
  rw [hn, hp1, hx1, Int.toNat_natCast]
  rw [hn] at hu
  rw [hp1] at hvl
  have HN := Lib.hid (show n ≤ 16 by omega)
  have HPL := Lib.hid hvl
  have HL := Lib.hid hl
  have HBY := Lib.hid hb
  have HM0 := Lib.hid (show m = { m with ents := [] } by rw [← hh])
  have hzF := (zero_of_info infoBE).1
  clear h hb hl hu hvl hT hn hp1 hx1 hh
  go_enter Try.func33, Try.ntmps33
  go_wp2_with fail
  refine HV.out.mono ?_
  rintro e w1 ⟨rfl, hr1, hk1⟩
  have HP1 := Lib.hid (HP.out.read hr1 hk1 HPL.out)
  clear hr1 hk1 HV
  go_wp2_with fail
  go_loopw [80] (fun i wr => ∃ k : Nat, k ≤ n ∧ i = .int .u64 (k : Int) ∧ Hid (∃ ev, PSt Z gr w0 wr B g bo bs (entsS bs p1 x1 k).2.1 (entsS bs p1 x1 k).2.2 { m with ents := (entsS bs p1 x1 k).1 } lv hv iv dv ev)) (fun i _ => n + 1 - (intOf i).toNat)
  case atStart => exact ⟨0, Nat.zero_le _, rfl, Lib.hid ⟨ev, by have := HP1.out; rw [HM0.out] at this; exact this⟩⟩
  case round =>
    obtain ⟨k, hk, rfl, H⟩ := hrel
    obtain ⟨ev', hP⟩ := H.out
    by_cases hlt : k < n
    · have b1 : decide ((k : Int) < (n : Int)) = true := decide_eq_true (by omega)
      obtain ⟨wk, wk'⟩ := u64_step hlt (by have := HN.out; omega)
      have hst : entsS bs p1 x1 (k + 1) = ((entsS bs p1 x1 k).1 ++ [⟨(e1R bs (entsS bs p1 x1 k).2.1 (entsS bs p1 x1 k).2.2).1, (e2R bs (entsS bs p1 x1 k).2.1 (entsS bs p1 x1 k).2.2).1, (e3R bs (entsS bs p1 x1 k).2.1 (entsS bs p1 x1 k).2.2).1, (e4R bs (entsS bs p1 x1 k).2.1 (entsS bs p1 x1 k).2.2).1⟩], (e4R bs (entsS bs p1 x1 k).2.1 (entsS bs p1 x1 k).2.2).2) := rfl
      have hln := entsS_len bs p1 x1 k
      obtain ⟨⟨L, q, y⟩, hS⟩ : ∃ s, entsS bs p1 x1 k = s := ⟨_, rfl⟩
      rw [hS] at hP hst hln
      simp only at hP hst hln
      have HPK := Lib.hid hP
      have l1 := e1R_le hP.le y
      have l2 := e2R_le hP.le y
      have l3 := e3R_le hP.le y
      have l4 := e4R_le hP.le y
      have HC1 := Lib.hid (show Calls Try.prog 57 #[.pointer (some ⟨g, 0, none⟩), .int .i64 700] wr fun e w' => ∃ v : Value, e = .returned v ∧ Kd.R (Kd.int .u8) 5 w' wr.heap.size (fun k => k ≠ g) v (e1R bs q y).1 ∧ IsR w' B g bs ((e1R bs q y).2.1 : Nat) (e1R bs q y).2.2 ∧ RKeep wr w' B g from ctextr_calls hP.rd HBY.out hP.le HL.out 700 (by decide))
      have HC2 := Lib.hid (show ∀ W : World, IsR W B g bs ((e1R bs q y).2.1 : Nat) (e1R bs q y).2.2 → Calls Try.prog 55 #[.pointer (some ⟨g, 0, none⟩), .int .u64 65536] W fun e w' => e = .returned (.int .u64 (e2R bs q y).1) ∧ IsR w' B g bs ((e2R bs q y).2.1 : Nat) (e2R bs q y).2.2 ∧ RKeep W w' B g from fun W hW => cvarr_calls hW HBY.out l1 HL.out 65536)
      have HC3 := Lib.hid (show ∀ W : World, IsR W B g bs ((e2R bs q y).2.1 : Nat) (e2R bs q y).2.2 → Calls Try.prog 55 #[.pointer (some ⟨g, 0, none⟩), .int .u64 65536] W fun e w' => e = .returned (.int .u64 (e3R bs q y).1) ∧ IsR w' B g bs ((e3R bs q y).2.1 : Nat) (e3R bs q y).2.2 ∧ RKeep W w' B g from fun W hW => cvarr_calls hW HBY.out l2 HL.out 65536)
      have HC4 := Lib.hid (show ∀ W : World, IsR W B g bs ((e3R bs q y).2.1 : Nat) (e3R bs q y).2.2 → Calls Try.prog 53 #[.pointer (some ⟨g, 0, none⟩), .int .u64 16] W fun e w' => ∃ v, e = .returned v ∧ Kd.R kH 28 w' W.heap.size (fun k => k ≠ g) v (e4R bs q y).1 ∧ IsR w' B g bs ((e4R bs q y).2.1 : Nat) (e4R bs q y).2.2 ∧ RKeep W w' B g from fun W hW => taken_calls hW HBY.out l3 HL.out 16 (by decide) (by decide))
      have u2 : 0 ≤ (e2R bs q y).1 ∧ (e2R bs q y).1 ≤ 65536 := by
        have := varR_u64 HBY.out (e1R bs q y).2.1 (e1R bs q y).2.2 (most := 65536) (by decide)
        exact ⟨this.1, this.2.1⟩
      have u3 : 0 ≤ (e3R bs q y).1 ∧ (e3R bs q y).1 ≤ 65536 := by
        have := varR_u64 HBY.out (e2R bs q y).2.1 (e2R bs q y).2.2 (most := 65536) (by decide)
        exact ⟨this.1, this.2.1⟩
      obtain ⟨⟨tx, q1, y1⟩, h1⟩ : ∃ s, e1R bs q y = s := ⟨_, rfl⟩
      obtain ⟨⟨cnt, q2, y2⟩, h2⟩ : ∃ s, e2R bs q y = s := ⟨_, rfl⟩
      obtain ⟨⟨idx, q3, y3⟩, h3⟩ : ∃ s, e3R bs q y = s := ⟨_, rfl⟩
      obtain ⟨⟨path, q4, y4⟩, h4⟩ : ∃ s, e4R bs q y = s := ⟨_, rfl⟩
      rw [h1] at HC1 HC2 hst l1
      rw [h2] at HC2 HC3 hst u2
      rw [h3] at HC3 HC4 hst u3
      rw [h4] at HC4 hst l4
      simp only at HC1 HC2 HC3 HC4 hst u2 u3 l1 l4
      have HST := Lib.hid hst
      have HLE4 := Lib.hid l4
      have HLE1 := Lib.hid l1
      have wc : IntKind.i64.wrap cnt = cnt := IntWalk.i64_in _ (by omega)
      have wc2 : wrap64 cnt = cnt := IntWalk.wrap64_in _ ⟨by omega, by omega⟩
      have wi : IntKind.i64.wrap idx = idx := IntWalk.i64_in _ (by omega)
      have wi2 : wrap64 idx = idx := IntWalk.wrap64_in _ ⟨by omega, by omega⟩
      have HTL := Lib.hid (show (L.length + 1) * 64 ≤ 140737488355328 by have := HN.out; omega)
      have HLT := Lib.hid hlt
      obtain ⟨nL, hnL⟩ : ∃ z, L.length = z := ⟨_, rfl⟩
      have HNL := Lib.hid hnL
      clear hP l1 l2 l3 l4 u2 u3 h1 h2 h3 h4 hst hln hS H hk hlt hnL
      go_wp2_with fail
      refine HC1.out.mono ?_
      rintro e w2 ⟨v, rfl, hv2, hr2, hk2⟩
      obtain ⟨Ax, cx, rfl⟩ := Kd.R_slice hv2
      obtain ⟨nx, hnx⟩ : ∃ z, tx.length = z := ⟨_, rfl⟩
      rw [hnx] at hv2 ⊢
      have HV2 := Lib.hid hv2
      have HR2 := Lib.hid hr2
      have HK2 := Lib.hid hk2
      have HBU := Lib.hid (built_be Ax nx cx)
      have hsz2 : wr.heap.size ≤ w2.heap.size := hk2.2.1
      have HGW := Lib.hid (show g < w2.heap.size from hr2.lt)
      clear hv2 hr2 hk2 hnx
      go_wp2_with ((with_reducible show wpList _ _ _ (Oper.mk _ (Op.build _ _) _ _ _ _ :: _) _ _); (go_loud (refine wpl_build rfl 67 _ rfl #[(0, .slice Ax nx cx)] (by simp [Act.eval]) #[.slice Ax nx cx, .int .i64 0, .int .i64 0, .slice none 0 0] HBU.out ?_)))
      have HE0 := Lib.hid (ESt.new (C := #[.slice Ax nx cx, .int .i64 0, .int .i64 0, .slice none 0 0]) HR2.out)
      refine (HC2.out _ HE0.out.rd).mono ?_
      rintro e w3 ⟨rfl, hr3, hk3⟩
      have hE3 := HE0.out.read hr3 hk3
      have HE3 := Lib.hid (show ESt w2 (w3.setCell ⟨w2.heap.size, 1, none⟩ (.int .i64 cnt)) B g bs q2 y2 #[.slice Ax nx cx, .int .i64 cnt, .int .i64 0, .slice none 0 0] from hE3.set 1 (.int .i64 cnt))
      have z1 := (blk_cell hE3.blk 1).trans (show _ = some (Value.int .i64 0) from rfl)
      have f1 := blk_frozen hE3.blk 1
      clear hr3 hk3 hE3
      go_wp2_with fail
      clear z1 f1
      refine (HC3.out _ HE3.out.rd).mono ?_
      rintro e w4 ⟨rfl, hr4, hk4⟩
      have hE4 := HE3.out.read hr4 hk4
      have HE4 := Lib.hid (show ESt w2 (w4.setCell ⟨w2.heap.size, 2, none⟩ (.int .i64 idx)) B g bs q3 y3 #[.slice Ax nx cx, .int .i64 cnt, .int .i64 idx, .slice none 0 0] from hE4.set 2 (.int .i64 idx))
      have z2 := (blk_cell hE4.blk 2).trans (show _ = some (Value.int .i64 0) from rfl)
      have f2 := blk_frozen hE4.blk 2
      clear hr4 hk4 hE4
      go_wp2_with fail
      clear z2 f2
      refine (HC4.out _ HE4.out.rd).mono ?_
      rintro e w5 ⟨v5, rfl, hv5, hr5, hk5⟩
      obtain ⟨Ap, cp, rfl⟩ := Kd.R_slice hv5
      obtain ⟨np, hnp⟩ : ∃ z, path.length = z := ⟨_, rfl⟩
      rw [hnp] at hv5 ⊢
      have hE5 := HE4.out.read hr5 hk5
      have hE6 : ESt w2 (w5.setCell ⟨w2.heap.size, 3, none⟩ (.slice Ap np cp)) B g bs q4 y4 #[.slice Ax nx cx, .int .i64 cnt, .int .i64 idx, .slice Ap np cp] := hE5.set 3 (.slice Ap np cp)
      have z3 := (blk_cell hE5.blk 3).trans (show _ = some (Value.slice none 0 0) from rfl)
      have f3 := blk_frozen hE5.blk 3
      have hlow : g + 1 ≤ (w4.setCell ⟨w2.heap.size, 2, none⟩ (.int .i64 idx)).heap.size := HE4.out.rd.lt
      have hpath : Kd.R kH 28 (w5.setCell ⟨w2.heap.size, 3, none⟩ (.slice Ap np cp)) (g + 1) (fun k => k ≠ g) (.slice Ap np cp) path := Kd.R_set (Kd.R_lower hv5 hlow) hE5.blk (by decide) 3 _
      have htext : Kd.R (Kd.int .u8) 5 (w5.setCell ⟨w2.heap.size, 3, none⟩ (.slice Ap np cp)) (g + 1) (fun k => k ≠ g) (.slice Ax nx cx) tx := Kd.R_lower (Kd.R_keep HV2.out hE6.keep.2 (fun _ h => h)) (by have := HPK.out.rd.lt; omega)
      have hP2 := HPK.out.read HR2.out HK2.out HLE1.out
      have hP6 := hP2.read hE6.rd hE6.keep HLE4.out
      obtain ⟨w6, hw6⟩ : ∃ W, w5.setCell ⟨w2.heap.size, 3, none⟩ (.slice Ap np cp) = W := ⟨_, rfl⟩
      rw [hw6] at hE6 hpath htext hP6
      have hPD := hP6.below (below_drew (Below.refl _ _))
      have HPD := Lib.hid hPD
      have HRE := Lib.hid hPD.re
      obtain ⟨fz, _, _, _, _, _, x69, _⟩ := hPD.cells
      obtain ⟨A1, c1, hev⟩ := Kd.R_slice hP6.re
      simp only [HNL.out] at hev
      subst hev
      have hnkD : w6.drew.heap[w2.heap.size]? = some (.cells #[.slice Ax nx cx, .int .i64 cnt, .int .i64 idx, .slice Ap np cp] 67 (0, 0)) := hE6.blk
      have hbne : bo ≠ w2.heap.size := by have := hP2.lt; omega
      have hrow := Kd.R_lt hP2.re
      have HMM := Lib.hid (show kE.M w6.drew (g + 1) (fun k => k ≠ g ∧ some k ≠ (Value.slice A1 nL c1).ownBlock) ⟨tx, cnt, idx, path⟩ [.slice Ax nx cx, .int .i64 cnt, .int .i64 idx, .slice Ap np cp] from kE_M (x := ⟨tx, cnt, idx, path⟩) (R_apartT (Kd.R_drew htext) hPD.re (by decide)) (R_apartT (Kd.R_drew hpath) hPD.re (by decide)))
      obtain ⟨CE, hCE⟩ : ∃ C, ([.slice Ax nx cx, .int .i64 cnt, .int .i64 idx, .slice Ap np cp] : List Value) = C := ⟨_, rfl⟩
      have hCA : (#[.slice Ax nx cx, .int .i64 cnt, .int .i64 idx, .slice Ap np cp] : Array Value) = CE.toArray := by rw [← hCE]
      have HCA := Lib.hid hCA
      have HS0 := Lib.hid (show w6.drew.rangeAt w2.heap.size 0 CE from fun j v hj => by
        rw [← hCE] at hj
        rw [Nat.zero_add, blk_cell hnkD, List.getElem?_toArray]
        exact hj)
      have HS1 := Lib.hid (show (w6.drew.alloc (.cells #[.slice Ax nx cx, .int .i64 cnt, .int .i64 idx, .slice Ap np cp] 67)).rangeAt w2.heap.size 0 CE from fun j v hj => by
        rw [← hCE] at hj
        rw [Nat.zero_add, blk_cell (blk_alloc hnkD _), List.getElem?_toArray]
        exact hj)
      obtain ⟨_, _, _, _, _, _, x69b, _⟩ := (hP6.below (below_alloc (Below.refl _ _) (.cells #[.slice Ax nx cx, .int .i64 cnt, .int .i64 idx, .slice Ap np cp] 67))).cells
      have HSG := Lib.hid (show ∀ (w7 : World), w6.drew.grownBy w7 (Value.slice A1 nL c1).ownBlock → w7.rangeAt w2.heap.size 0 CE from fun w7 hg7 j v hj => by
        have h3 := (hg7.block _ (blk_lt hnkD) (fun e => by have h9 := hrow _ e.symm; omega)).trans hnkD
        rw [← hCE] at hj
        rw [Nat.zero_add, blk_cell h3, List.getElem?_toArray]
        exact hj)
      have HSF := Lib.hid (show ∀ (u : World) (z : Value), u.rangeAt w2.heap.size 0 CE → (u.setCell ⟨bo, 69, none⟩ z).rangeAt w2.heap.size 0 CE from fun u z hu j v hj => by
        have h1 := hu j v hj
        unfold World.cell? at h1 ⊢
        rw [show (u.setCell ⟨bo, 69, none⟩ z).heap[w2.heap.size]? = u.heap[w2.heap.size]? from Below.heap_setCell u ⟨bo, 69, none⟩ z w2.heap.size (fun e => hbne e.symm)]
        exact h1)
      have HGL := Lib.hid (show g + 1 ≤ w6.drew.heap.size from HPD.out.rd.lt)
      have hu := Try.underlying67
      have hi : (Try.prog.info? 67).map (·.size) = some CE.length := by rw [← hCE]; exact (zero_of_info infoBE).2
      have hbs := fun u => run_be1 Ax nx cx cnt idx Ap np cp u
      have HW6 := Lib.hid hw6
      clear hv5 hr5 hk5 hnp hE5 hE6 hlow hpath htext hP2 hP6 hPD fz hnkD hbne hrow hCE hCA hw6
      go_wp2_with fail
      rw [HW6.out]
      clear z3 f3
      refine wp_region_held (S := fun u => u.rangeAt w2.heap.size 0 CE) (by kernel_rfl) ?_
      change wpAnyH _ _ _ _ _ _ _ _ (World.drew _)
      have hHeld := HS0.out
      refine wpAnyH_take (i := 0) (oi := ({ dst := some 99, op := Op.move (Operand.tmp 0), type := 92, pos := "msg.go:242", after := #[], guard := none } : Oper)) (v := .pointer (some ⟨bo, 0, none⟩)) rfl (by kernel_rfl) (by kernel_rfl) (by kernel_rfl) (fun _ _ _ h => h) (Or.inl ⟨by rfl, fun w hSw => by go_simp⟩) hHeld ?_
      simp only [Act.put, List.setIfInBounds_toArray, List.set_cons_zero, List.set_cons_succ]
      refine wpAnyH_take (i := 1) (oi := ({ dst := some 100, op := Op.move (Operand.tmp 0), type := 92, pos := "msg.go:242", after := #[], guard := none } : Oper)) (v := .pointer (some ⟨bo, 0, none⟩)) rfl (by kernel_rfl) (by kernel_rfl) (by kernel_rfl) (fun _ _ _ h => h) (Or.inl ⟨by rfl, fun w hSw => by go_simp⟩) hHeld ?_
      simp only [Act.put, List.setIfInBounds_toArray, List.set_cons_zero, List.set_cons_succ]
      refine wpAnyH_take (i := 2) (oi := ({ dst := some 101, op := Op.nilCheck (Operand.tmp 100), type := 0, pos := "msg.go:242", after := #[{ on := 1, ground := Ground.data }], guard := none } : Oper)) (v := .pointer (some ⟨bo, 0, none⟩)) rfl (by kernel_rfl) (by kernel_rfl) (by kernel_rfl) (fun _ _ _ h => h) (Or.inl ⟨by rfl, fun w hSw => by go_simp⟩) hHeld ?_
      simp only [Act.put, List.setIfInBounds_toArray, List.set_cons_zero, List.set_cons_succ]
      refine wpAnyH_take (i := 3) (oi := ({ dst := some 102, op := Op.fieldAddr 33 (Operand.tmp 101) 7, type := 0, pos := "msg.go:242", after := #[{ on := 2, ground := Ground.data }], guard := none } : Oper)) (v := .pointer (some ⟨bo, 69, none⟩)) rfl (by kernel_rfl) (by kernel_rfl) (by kernel_rfl) (fun _ _ _ h => h) (Or.inl ⟨by rfl, fun w hSw => by go_simp⟩) hHeld ?_
      simp only [Act.put, List.setIfInBounds_toArray, List.set_cons_zero, List.set_cons_succ]
      refine wpAnyH_take (i := 5) (oi := ({ dst := some 104, op := Op.load 67 (Operand.tmp 8), type := 67, pos := "msg.go:242", after := #[], guard := none } : Oper)) (v := .agg #[.slice Ax nx cx, .int .i64 cnt, .int .i64 idx, .slice Ap np cp]) rfl (by kernel_rfl) (by kernel_rfl) (by kernel_rfl) (fun _ _ _ h => h) (by rw [HCA.out]; exact yieldsIf_load_mid (by rfl) _ _ rfl w2.heap.size 0 rfl CE _ (fun _ h => h) hu rfl hi) hHeld ?_
      simp only [Act.put, List.setIfInBounds_toArray, List.set_cons_zero, List.set_cons_succ]
      refine wpAnyH_ready (rs := [4, 6]) (by kernel_rfl) (by simp) ?_
      refine AllReadyH.cons (o := ({ dst := some 103, op := Op.load 30 (Operand.tmp 102), type := 30, pos := "msg.go:242", after := #[{ on := 3, ground := Ground.data }], guard := none } : Oper)) rfl (fun K hK => ?_) (AllReadyH.cons (o := ({ dst := some 105, op := Op.buildSlice 30 1 #[(0, Operand.tmp 104)], type := 30, pos := "msg.go:242", after := #[{ on := 5, ground := Ground.data }], guard := none } : Oper)) rfl (fun K hK => ?_) AllReadyH.nil)
      focus
        go_simp
        refine hK.out _ _ (HS0.out) (fun hHeld => ?_)
        clear hK K
        try simp only [Act.put, List.setIfInBounds_toArray, List.set_cons_zero, List.set_cons_succ]
        refine wpAnyH_ready (rs := [6]) (by kernel_rfl) (by simp) ?_
        refine AllReadyH.cons (o := ({ dst := some 105, op := Op.buildSlice 30 1 #[(0, Operand.tmp 104)], type := 30, pos := "msg.go:242", after := #[{ on := 5, ground := Ground.data }], guard := none } : Oper)) rfl (fun K hK => ?_) AllReadyH.nil
        go_simp
        refine hK.out _ _ (HS1.out) (fun hHeld => ?_)
        clear hK K
        try simp only [Act.put, List.setIfInBounds_toArray, List.set_cons_zero, List.set_cons_succ]
        refine wpAnyH_ready (rs := [7]) (by kernel_rfl) (by simp) ?_
        refine AllReadyH.cons (o := ({ dst := some 106, op := Op.call { callee := Callee.builtin Builtin.append, args := #[Operand.tmp 103, Operand.tmp 105], argTypes := #[30, 30] }, type := 30, pos := "msg.go:242", after := #[{ on := 4, ground := Ground.data }, { on := 6, ground := Ground.data }], guard := none } : Oper)) rfl (fun K hK => ?_) AllReadyH.nil
        refine Kd.R_append_step kE (W := w6.drew) (w0 := w6.drew) (g + 1) (by rfl) (.tmp 103) (.tmp 105) 30 67 (.agg #[.slice none 0 0, .int .i64 0, .int .i64 0, .slice none 0 0]) 64 (by rfl) Try.underlying30 infoBE3 (by rfl) (by decide) (by decide) (.slice A1 nL c1) L ⟨tx, cnt, idx, path⟩ [.slice Ax nx cx, .int .i64 cnt, .int .i64 idx, .slice Ap np cp] (fun k => k ≠ g) (fun k => k ≠ g ∧ some k ≠ (Value.slice A1 nL c1).ownBlock) (by rfl) (by rfl) HMM.out (fun _ h => h) (fun k hk => by have := HGL.out; omega) HRE.out (Below.refl _ _) (by have := HGL.out; omega) HTL.out ?_
        intro v4 w4 ho hb hg hat
        obtain ⟨A4, n4, c4, rfl, f4, z4, hP4⟩ := PSt.pushE HPD.out ho hb hg
        have HP4 := Lib.hid hP4
        have s4 := HSG.out w4 hg
        have s5 := HSF.out w4 (.slice A4 n4 c4) s4
        clear ho hb hg hat hP4
        refine hK.out _ _ (s4) (fun hHeld => ?_)
        clear hK K
        try simp only [Act.put, List.setIfInBounds_toArray, List.set_cons_zero, List.set_cons_succ]
        refine wpAnyH_take (i := 8) (oi := ({ dst := some 107, op := Op.nilCheck (Operand.tmp 99), type := 0, pos := "msg.go:242", after := #[{ on := 0, ground := Ground.data }, { on := 0, ground := Ground.phase }, { on := 1, ground := Ground.phase }, { on := 2, ground := Ground.phase }, { on := 3, ground := Ground.phase }, { on := 4, ground := Ground.phase }, { on := 5, ground := Ground.phase }, { on := 6, ground := Ground.phase }, { on := 7, ground := Ground.phase }], guard := none } : Oper)) (v := .pointer (some ⟨bo, 0, none⟩)) rfl (by kernel_rfl) (by kernel_rfl) (by kernel_rfl) (fun _ _ _ h => h) (Or.inl ⟨by rfl, fun w hSw => by go_simp⟩) hHeld ?_
        simp only [Act.put, List.setIfInBounds_toArray, List.set_cons_zero, List.set_cons_succ]
        refine wpAnyH_take (i := 9) (oi := ({ dst := some 108, op := Op.fieldAddr 33 (Operand.tmp 107) 7, type := 0, pos := "msg.go:242", after := #[{ on := 8, ground := Ground.data }, { on := 0, ground := Ground.phase }, { on := 1, ground := Ground.phase }, { on := 2, ground := Ground.phase }, { on := 3, ground := Ground.phase }, { on := 4, ground := Ground.phase }, { on := 5, ground := Ground.phase }, { on := 6, ground := Ground.phase }, { on := 7, ground := Ground.phase }], guard := none } : Oper)) (v := .pointer (some ⟨bo, 69, none⟩)) rfl (by kernel_rfl) (by kernel_rfl) (by kernel_rfl) (fun _ _ _ h => h) (Or.inl ⟨by rfl, fun w hSw => by go_simp⟩) hHeld ?_
        simp only [Act.put, List.setIfInBounds_toArray, List.set_cons_zero, List.set_cons_succ]
        refine wpAnyH_ready (rs := [10]) (by kernel_rfl) (by simp) ?_
        refine AllReadyH.cons (o := ({ dst := none, op := Op.store 30 (Operand.tmp 108) (Operand.tmp 106), type := 0, pos := "msg.go:242", after := #[{ on := 9, ground := Ground.data }, { on := 7, ground := Ground.data }, { on := 7, ground := Ground.chain }, { on := 0, ground := Ground.phase }, { on := 1, ground := Ground.phase }, { on := 2, ground := Ground.phase }, { on := 3, ground := Ground.phase }, { on := 4, ground := Ground.phase }, { on := 5, ground := Ground.phase }, { on := 6, ground := Ground.phase }, { on := 7, ground := Ground.phase }], guard := none } : Oper)) rfl (fun K hK => ?_) AllReadyH.nil
        go_simp
        refine hK.out _ _ (s5) (fun hHeld => ?_)
        clear hK K
        try simp only [Act.put, List.setIfInBounds_toArray, List.set_cons_zero, List.set_cons_succ]
        refine wpAnyH_done (by kernel_rfl) ?_ _
        clear hHeld s4 s5 f4 z4 x69 x69b
        go_wp2_with fail
        go_roundw
        case rel => exact ⟨k + 1, by have := HLT.out; omega, by first | rfl | (rw [wk]) | (rw [wk']) | simp, Lib.hid ⟨_, by rw [HST.out]; exact HP4.out⟩⟩
        case measure => exact meas_u HLT.out (by first | exact wk | exact wk' | simp)
      focus
        go_simp
        refine hK.out _ _ (HS1.out) (fun hHeld => ?_)
        clear hK K
        try simp only [Act.put, List.setIfInBounds_toArray, List.set_cons_zero, List.set_cons_succ]
        refine wpAnyH_ready (rs := [4]) (by kernel_rfl) (by simp) ?_
        refine AllReadyH.cons (o := ({ dst := some 103, op := Op.load 30 (Operand.tmp 102), type := 30, pos := "msg.go:242", after := #[{ on := 3, ground := Ground.data }], guard := none } : Oper)) rfl (fun K hK => ?_) AllReadyH.nil
        go_simp
        refine hK.out _ _ (HS1.out) (fun hHeld => ?_)
        clear hK K
        try simp only [Act.put, List.setIfInBounds_toArray, List.set_cons_zero, List.set_cons_succ]
        refine wpAnyH_ready (rs := [7]) (by kernel_rfl) (by simp) ?_
        refine AllReadyH.cons (o := ({ dst := some 106, op := Op.call { callee := Callee.builtin Builtin.append, args := #[Operand.tmp 103, Operand.tmp 105], argTypes := #[30, 30] }, type := 30, pos := "msg.go:242", after := #[{ on := 4, ground := Ground.data }, { on := 6, ground := Ground.data }], guard := none } : Oper)) rfl (fun K hK => ?_) AllReadyH.nil
        refine Kd.R_append_step kE (W := w6.drew) (w0 := w6.drew) (g + 1) (by rfl) (.tmp 103) (.tmp 105) 30 67 (.agg #[.slice none 0 0, .int .i64 0, .int .i64 0, .slice none 0 0]) 64 (by rfl) Try.underlying30 infoBE3 (by rfl) (by decide) (by decide) (.slice A1 nL c1) L ⟨tx, cnt, idx, path⟩ [.slice Ax nx cx, .int .i64 cnt, .int .i64 idx, .slice Ap np cp] (fun k => k ≠ g) (fun k => k ≠ g ∧ some k ≠ (Value.slice A1 nL c1).ownBlock) (by rfl) (by rfl) HMM.out (fun _ h => h) (fun k hk => by have := HGL.out; omega) HRE.out (Below.refl _ _) (by have := HGL.out; omega) HTL.out ?_
        intro v4 w4 ho hb hg hat
        obtain ⟨A4, n4, c4, rfl, f4, z4, hP4⟩ := PSt.pushE HPD.out ho hb hg
        have HP4 := Lib.hid hP4
        have s4 := HSG.out w4 hg
        have s5 := HSF.out w4 (.slice A4 n4 c4) s4
        clear ho hb hg hat hP4
        refine hK.out _ _ (s4) (fun hHeld => ?_)
        clear hK K
        try simp only [Act.put, List.setIfInBounds_toArray, List.set_cons_zero, List.set_cons_succ]
        refine wpAnyH_take (i := 8) (oi := ({ dst := some 107, op := Op.nilCheck (Operand.tmp 99), type := 0, pos := "msg.go:242", after := #[{ on := 0, ground := Ground.data }, { on := 0, ground := Ground.phase }, { on := 1, ground := Ground.phase }, { on := 2, ground := Ground.phase }, { on := 3, ground := Ground.phase }, { on := 4, ground := Ground.phase }, { on := 5, ground := Ground.phase }, { on := 6, ground := Ground.phase }, { on := 7, ground := Ground.phase }], guard := none } : Oper)) (v := .pointer (some ⟨bo, 0, none⟩)) rfl (by kernel_rfl) (by kernel_rfl) (by kernel_rfl) (fun _ _ _ h => h) (Or.inl ⟨by rfl, fun w hSw => by go_simp⟩) hHeld ?_
        simp only [Act.put, List.setIfInBounds_toArray, List.set_cons_zero, List.set_cons_succ]
        refine wpAnyH_take (i := 9) (oi := ({ dst := some 108, op := Op.fieldAddr 33 (Operand.tmp 107) 7, type := 0, pos := "msg.go:242", after := #[{ on := 8, ground := Ground.data }, { on := 0, ground := Ground.phase }, { on := 1, ground := Ground.phase }, { on := 2, ground := Ground.phase }, { on := 3, ground := Ground.phase }, { on := 4, ground := Ground.phase }, { on := 5, ground := Ground.phase }, { on := 6, ground := Ground.phase }, { on := 7, ground := Ground.phase }], guard := none } : Oper)) (v := .pointer (some ⟨bo, 69, none⟩)) rfl (by kernel_rfl) (by kernel_rfl) (by kernel_rfl) (fun _ _ _ h => h) (Or.inl ⟨by rfl, fun w hSw => by go_simp⟩) hHeld ?_
        simp only [Act.put, List.setIfInBounds_toArray, List.set_cons_zero, List.set_cons_succ]
        refine wpAnyH_ready (rs := [10]) (by kernel_rfl) (by simp) ?_
        refine AllReadyH.cons (o := ({ dst := none, op := Op.store 30 (Operand.tmp 108) (Operand.tmp 106), type := 0, pos := "msg.go:242", after := #[{ on := 9, ground := Ground.data }, { on := 7, ground := Ground.data }, { on := 7, ground := Ground.chain }, { on := 0, ground := Ground.phase }, { on := 1, ground := Ground.phase }, { on := 2, ground := Ground.phase }, { on := 3, ground := Ground.phase }, { on := 4, ground := Ground.phase }, { on := 5, ground := Ground.phase }, { on := 6, ground := Ground.phase }, { on := 7, ground := Ground.phase }], guard := none } : Oper)) rfl (fun K hK => ?_) AllReadyH.nil
        go_simp
        refine hK.out _ _ (s5) (fun hHeld => ?_)
        clear hK K
        try simp only [Act.put, List.setIfInBounds_toArray, List.set_cons_zero, List.set_cons_succ]
        refine wpAnyH_done (by kernel_rfl) ?_ _
        clear hHeld s4 s5 f4 z4 x69 x69b
        go_wp2_with fail
        go_roundw
        case rel => exact ⟨k + 1, by have := HLT.out; omega, by first | rfl | (rw [wk]) | (rw [wk']) | simp, Lib.hid ⟨_, by rw [HST.out]; exact HP4.out⟩⟩
        case measure => exact meas_u HLT.out (by first | exact wk | exact wk' | simp)
    · have hkn : k = n := by omega
      rw [hkn] at hP
      have b1 : decide ((k : Int) < (n : Int)) = false := decide_eq_false (by omega)
      have b2 : (k < n) = False := eq_false (by omega)
      have HPF := Lib.hid hP
      clear hP H hlt hk hkn
      go_wp2_with fail
      go_end0
      exact ⟨rfl, _, _, _, _, _, HPF.out⟩
end Go.Proofs.Ytfcmdhimlfoofaa.Hand

