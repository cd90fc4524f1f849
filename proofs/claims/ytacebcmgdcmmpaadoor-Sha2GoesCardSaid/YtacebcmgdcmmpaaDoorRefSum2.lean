/- The document's sum: the function itself. -/
import Derived.Test.YtacebcmgdcmmpaaDoorProg
import Derived.Below
import Derived.Deep.Draws
import Derived.Deep.AppendLies
import Derived.Maps.AppendAt
import Derived.OwnWalk
import Derived.Laws.BytesArg
import Derived.Laws.MakeOwn
import Derived.Laws.OwnMore
import Derived.Deep.OwnRows
import Derived.Tactics
import Derived.Lib.ConvBytes
import Derived.Laws.Slices
import Derived.WalkKit
import Derived.KernelRfl
import Derived.RowKit3
import Derived.Deep.LoopGhost
import Derived.Deep.QuietTactic
import Derived.BigQuiet
import Derived.WideLaws
import Derived.Deep.DeepCutAuto
import Derived.Deep.CutBlock
import Derived.Deep.RegionHeld3
import Derived.Laws.Rows
import Derived.Lib.AppendStr
import Derived.ArgAppend
import Derived.Laws.IdiomCopy
import Derived.OrdersHeld
import Derived.Laws.BitsLemmas
import Derived.RowKit
import Derived.StillTailTactics
import Derived.Test.YtacebcmgdcmmpaaDoorWWords
import Derived.Test.YtacebcmgdcmmpaaDoorWLast
import Derived.Test.YtacebcmgdcmmpaaDoorWMore
import Derived.Lib.Hide
import Derived.Outline
import Derived.Deep.MidRow
import Derived.Deep.WholeRow
import Derived.Deep.RegionHeld3
import Derived.Deep.DrawnRows
import Derived.Laws.Tables
import Derived.Test.YtacebcmgdcmmpaaDoorRefSum
namespace Go.Proofs.YtacebcmgdcmmpaaDoor.Hand
open Go Go.RowKit Go.Proofs.YtacebcmgdcmmpaaDoor.Plain Go.Proofs.YtacebcmgdcmmpaaDoor.PAll Go.Proofs.YtacebcmgdcmmpaaDoorW.PrintWords Go.Proofs.YtacebcmgdcmmpaaDoorW.PrintLast Go.Proofs.YtacebcmgdcmmpaaDoorW.PrintMore
set_option linter.unusedVariables false
set_option linter.unusedSimpArgs false
attribute [local go_sem ↓] Go.wp_at_zero Go.wp_at_succ
set_option maxHeartbeats 2000000 in
set_option maxRecDepth 100000 in
theorem rsum_calls (bs : List Int) (w : World) (hl : bs.length ≤ 800000) (hb : ∀ x ∈ bs, 0 ≤ x ∧ x < 256) :
    Calls Tryd.prog 13 #[.string (strOfNums bs)] w fun e w' => e = .returned (.agg (nums .u8 (sumP bs)).toArray) ∧ Below w.heap.size w w' := by
  have hz30 := (zero_of_info info32b).1
  obtain ⟨Z0, hZ0⟩ : ∃ C, (nums .u8 (List.replicate 32 0)).toArray = C := ⟨_, rfl⟩
  rw [hZ0] at hz30
  have HZ0 := Lib.hid hZ0
  have HBY := Lib.hid hb
  have HOB := Lib.hid (fun W => ownB_of_bytes W hb (by omega))
  have kb := fun W => print_bytes (P := Tryd.prog) 9 27 5 Tryd.underlying9 Tryd.underlying27 Tryd.underlying5 (strOfNums bs) W
  have hS := strOfNums_size bs
  obtain ⟨S, hSS⟩ : ∃ S, strOfNums bs = S := ⟨_, rfl⟩
  rw [hSS] at hS kb HOB ⊢
  obtain ⟨nb, hnb⟩ : ∃ n, bs.length = n := ⟨_, rfl⟩
  rw [hnb] at hS hl
  have HNB := Lib.hid hnb
  have HL := Lib.hid hl
  have HSZ := Lib.hid hS
  obtain ⟨pz, hpz⟩ : ∃ z, padZ nb = z := ⟨_, rfl⟩
  have hp1 : pz < 64 ∧ (nb + 1 + pz) % 64 = 56 ∧ ∀ m, m < pz → (nb + 1 + m) % 64 ≠ 56 := by
    unfold padZ at hpz
    refine ⟨by omega, by omega, fun m hm => by omega⟩
  have HPZ := Lib.hid (And.intro hpz hp1)
  have HW1 := Lib.hid (show w.heap.size + 1 = (w.alloc (.cells Z0 30)).heap.size by rw [World.size_alloc])
  have HB1 := Lib.hid (below_alloc (Below.refl w.heap.size w) (.cells Z0 30))
  have H1 := Lib.hid (heap_alloc_new w (.cells Z0 30))
  have hob := HOB.out (w.alloc (.cells Z0 30))
  have hbw := bytesW_below (w.alloc (.cells Z0 30)) S
  have hbz := hbw.size
  rw [World.size_alloc] at hob hbw hbz
  have HPU := Lib.hid (And.intro hob (And.intro hbw hbz))
  have HL9 := Lib.hid (show bs.length ≤ 900000 by omega)
  clear hZ0 hb hSS hS hnb hl hpz hp1 hob hbw hbz
  go_enter Tryd.func13, Tryd.ntmps13
  go_wp2_with ((with_reducible refine gate_builtin (b := .append) (xs := #[.tmp 12, .tmp 13]) rfl ?_); (go_loud (refine ownB_push (w0 := w.alloc (.cells Z0 30)) (w.heap.size + 1) rfl (.tmp 12) (.tmp 13) rfl _ bs 128 rfl rfl HPU.out.1 HPU.out.2.1 HPU.out.2.2 HL9.out ?_)); intro v1 w1 ho1 hb1)
  have HO := Lib.hid (show OwnB w1 (w.heap.size + 1) v1 (preP bs 0) from ho1)
  have HB := Lib.hid hb1
  clear ho1 hb1 HPU HOB kb
  obtain ⟨W1, hW1⟩ : ∃ W, w.alloc (.cells Z0 30) = W := ⟨_, rfl⟩
  rw [hW1] at HB HW1 HB1 H1
  obtain ⟨b0, hb0⟩ : ∃ b, w.heap.size = b := ⟨_, rfl⟩
  rw [hb0] at HW1 HB1 H1 HO HB ⊢
  obtain ⟨b1, hb1⟩ : ∃ b, b0 + 1 = b := ⟨_, rfl⟩
  rw [hb1] at HO HB HW1
  have HBB := Lib.hid (show w.heap.size = b0 ∧ W1.heap.size = b1 ∧ b0 + 1 = b1 from ⟨hb0, HW1.out.symm, hb1⟩)
  have HB0 := Lib.hid (show b1 ≤ w1.heap.size from by have := HB.out.size; have := HBB.out; omega)
  clear hW1 hb0 hb1
  go_loopw [3] (fun v wr => ∃ m : Nat, m ≤ pz ∧ Hid (OwnB wr b1 v (preP bs m) ∧ Below b1 W1 wr ∧ b1 ≤ wr.heap.size)) (fun v _ => match v with | .slice _ l _ => nb + 1 + pz - l | _ => 0)
  case atStart => exact ⟨0, by omega, Lib.hid ⟨HO.out, HB.out, HB0.out⟩⟩
  case round =>
    obtain ⟨m, hm, H⟩ := hrel
    obtain ⟨ho, hbl, hsz⟩ := H.out
    obtain ⟨A, c, hv, hc, -⟩ := ho.reads (by rw [preP_len, HNB.out]; have := HL.out; have := HPZ.out.2.1; omega)
    subst hv
    have HO := Lib.hid ho
    have HBL := Lib.hid hbl
    have HSZ2 := Lib.hid hsz
    have HPL := Lib.hid (show (preP bs m).length ≤ 900000 by rw [preP_len, HNB.out]; have := HL.out; have := HPZ.out.2.1; omega)
    have hpl : (preP bs m).length = nb + 1 + m := by rw [preP_len, HNB.out]
    have HPLE := Lib.hid hpl
    obtain ⟨q, hq⟩ : ∃ q, (preP bs m).length = q := ⟨_, rfl⟩
    rw [hq] at hpl hc HO HPL HPLE ⊢
    have hqm : (q : Int).tmod 64 = (q : Int) % 64 := Int.tmod_eq_emod_of_nonneg (by omega)
    have HQ := Lib.hid hq
    by_cases hlt : m < pz
    · have hne : ((q : Int) % 64 == 56) = false := by rw [beq_eq_false_iff_ne]; have := HPZ.out.2.2.2 m hlt; omega
      have hne2 : ((q : Int) % 64 != 56) = true := by simp only [bne, hne]; rfl
      clear ho hbl hsz H hpl hq hc
      go_wp2_with ((with_reducible refine gate_builtin (b := .append) (xs := #[.tmp 19, .tmp 20]) rfl ?_); (go_loud (refine ownB_push (w0 := W1) b1 rfl (.tmp 19) (.tmp 20) rfl _ (preP bs m) 0 rfl rfl HO.out HBL.out HSZ2.out (by rw [HQ.out]; exact HPL.out) ?_)); intro v1 w1 ho1 hb1; rw [← preP_step] at ho1)
      have HO2 := Lib.hid ho1
      have HB2 := Lib.hid hb1
      have HS2 := Lib.hid (show b1 ≤ w1.heap.size from by have := hb1.size; have := HBB.out; omega)
      clear ho1 hb1 hqm hne hne2
      go_wp2
      go_roundw
      case rel => exact ⟨m + 1, by omega, Lib.hid ⟨HO2.out, HB2.out, HS2.out⟩⟩
      case measure =>
        obtain ⟨A2, c2, hv2, -, -⟩ := HO2.out.reads (by rw [preP_len, HNB.out]; have := HL.out; have := HPZ.out.2.1; omega)
        subst hv2
        rw [preP_len, HNB.out]
        have := HPLE.out
        show nb + 1 + pz - (nb + 1 + (m + 1)) < nb + 1 + pz - q
        omega
    · obtain rfl : m = pz := by omega
      have he : ((q : Int) % 64 == 56) = true := by rw [beq_iff_eq]; have := HPZ.out.2.2.1; omega
      have hne2 : ((q : Int) % 64 != 56) = false := by simp only [bne, he]; rfl
      have hq56 : (q : Int) % 64 = 56 := by have := HPZ.out.2.2.1; omega
      obtain ⟨N, hN⟩ : ∃ N, 8 * nb = N := ⟨_, rfl⟩
      have hn8 : (nb : Int) * 8 = (N : Int) := by omega
      have hnb2 : (nb : Int) ≤ 800000 := by have := HL.out; omega
      have hs : S.size = nb := HSZ.out
      have HN := Lib.hid (show 8 * nb = N ∧ N ≤ 6400000 by have := HL.out; omega)
      have HO0 := Lib.hid (show OwnB wr b1 (.slice A q c) (preP bs m ++ (great 8 N).take 0) by rw [List.take_zero, List.append_nil]; exact HO.out)
      clear ho hbl hsz H hpl hq hc hlt hm HO hN
      go_wp2_with fail
      have HPL := Lib.hid (show (preP bs m).length ≤ 900000 ∧ (preP bs m).length = nb + 1 + m by rw [preP_len, HNB.out]; have := HL.out; have := HPZ.out.2.1; omega)
      obtain ⟨PP, hPP⟩ : ∃ P, preP bs m = P := ⟨_, rfl⟩
      rw [hPP] at HO0 HPL
      have HPP := Lib.hid hPP
      clear hPP he hne2 hq56 hn8 hnb2 hs hqm
      go_loopw [3, 5] (fun v i wx => ∃ k : Nat, k ≤ 8 ∧ i = .int .i64 (k : Int) ∧ Hid (OwnB wx b1 v (PP ++ (great 8 N).take k) ∧ Below b1 W1 wx ∧ b1 ≤ wx.heap.size)) (fun _ i _ => (8 - intOf i).toNat)
      case atStart => exact ⟨0, by omega, rfl, Lib.hid ⟨HO0.out, HBL.out, HSZ2.out⟩⟩
      case round =>
        obtain ⟨k, hk, rfl, H⟩ := hrel
        obtain ⟨ho, hbl, hsz⟩ := H.out
        have HO := Lib.hid ho
        have HBK := Lib.hid hbl
        have HSK := Lib.hid hsz
        clear ho hbl hsz H
        by_cases hlt : k < 8
        · obtain ⟨wo, rfl⟩ : ∃ wo : World, wo = wr := ⟨_, rfl⟩
          go_wp2_with fail
          go_loop [6, 7] (fun d j => ∃ t : Nat, t ≤ 7 - k ∧ j = .int .i64 (t : Int) ∧ d = .int .u64 ((N / 256 ^ t : Nat) : Int)) (fun _ j => (7 - k - (intOf j).toNat))
          case atStart => exact ⟨0, by omega, rfl, by simp⟩
          case round =>
            obtain ⟨t, ht, rfl, rfl⟩ := hrel
            have hdd : N / 256 ^ (t + 1) = N / 256 ^ t / 256 := by rw [Nat.pow_succ, Nat.div_div_eq_div_mul]
            have hDl : N / 256 ^ t ≤ N := Nat.div_le_self _ _
            have hNl := HN.out.2
            have hgt := great_take N k hlt
            obtain ⟨D, hD⟩ : ∃ D, N / 256 ^ t = D := ⟨_, rfl⟩
            rw [hD] at hdd hDl ⊢
            have HDD := Lib.hid hdd
            have hD2 : (D : Int) ≤ 6400000 := by omega
            by_cases hlt2 : t < 7 - k
            · have h7 : (t : Int) < 7 - (k : Int) := by omega
              clear hgt hdd hDl hD hNl
              go_wp2_with fail
              go_round
              case rel => exact ⟨t + 1, by omega, by go_num, by rw [HDD.out]; exact congrArg (Value.int .u64) (by omega)⟩
              case measure => simp only [intOf]; omega
            · obtain rfl : t = 7 - k := by omega
              have h7 : ¬ (((7 - k : Nat) : Int) < 7 - (k : Int)) := by omega
              have h7b : ((7 - k : Nat) : Int) = 7 - (k : Int) := by omega
              rw [hD] at hgt
              obtain ⟨P, hP⟩ : ∃ P : Int, ((D % 256 : Nat) : Int) = P := ⟨_, rfl⟩
              rw [hP] at hgt
              have hP2 : (D : Int) % 256 = P := by omega
              have hP3 : IntKind.u8.wrap P = P := by rw [IntKind.wrap_u8]; omega
              have hP4 : P % 256 = P := by omega
              have HGT := Lib.hid (show PP ++ (great 8 N).take (k + 1) = (PP ++ (great 8 N).take k) ++ [P] by rw [hgt, List.append_assoc])
              have HLE := Lib.hid (show (PP ++ (great 8 N).take k).length ≤ 900000 by have := HPL.out; have := HL.out; have := HPZ.out.2.1; rw [List.length_append, List.length_take, great_len]; omega)
              clear hgt hdd hDl hD hNl hP
              rw [h7b]
              go_wp2_with ((with_reducible refine gate_builtin (b := .append) (xs := #[.tmp 39, .tmp 43]) rfl ?_); (go_loud (refine ownB_push (w0 := W1) b1 rfl (.tmp 39) (.tmp 43) rfl _ (PP ++ (great 8 N).take k) P rfl rfl HO.out HBK.out HSK.out HLE.out ?_)); intro v1 w1 ho1 hb1; rw [← HGT.out] at ho1)
              have HO2 := Lib.hid ho1
              have HB2 := Lib.hid hb1
              have HS2 := Lib.hid (show b1 ≤ w1.heap.size from by have := hb1.size; have := HBB.out; omega)
              clear ho1 hb1 hP2 hP3 hP4 h7 h7b hD2
              go_wp2
              go_roundw
              case rel => exact ⟨k + 1, by omega, by go_num, Lib.hid ⟨HO2.out, HB2.out, HS2.out⟩⟩
              case measure => simp only [intOf]; omega
        · obtain rfl : k = 8 := by omega
          rw [show ((8 : Nat) : Int) = 8 from rfl]
          have hpad : PP ++ (great 8 N).take 8 = padB bs := by
            rw [← HPP.out, ← HPZ.out.1, ← HN.out.1, ← HNB.out, List.take_of_length_le (by rw [great_len]; omega)]
            exact preP_pad bs
          have ho := HO.out
          rw [hpad] at ho
          have hpl : (padB bs).length % 64 = 0 := padB_len bs
          have hpb : ∀ x ∈ padB bs, 0 ≤ x ∧ x < 256 := padB_bytes HBY.out
          have hpl2 : (padB bs).length ≤ 900100 := by
            rw [← hpad, List.length_append]
            have := HPL.out.1
            simp [great_len]
            omega
          have hst : stOf (padB bs) = stN (padB bs) ((padB bs).length / 64) := rfl
          have hsum : sumP bs = outB (stOf (padB bs)) := rfl
          obtain ⟨pd, hpd⟩ : ∃ p, padB bs = p := ⟨_, rfl⟩
          rw [hpd] at ho hpl hpb hpl2 hst hsum
          obtain ⟨A, c, hv, hc, hC⟩ := ho.reads (by omega)
          subst hv
          obtain ⟨LP, hLP⟩ : ∃ l, pd.length = l := ⟨_, rfl⟩
          rw [hLP] at hpl hpl2 hst hc hC ⊢
          have HC := Lib.hid hC
          have HLP := Lib.hid (And.intro hLP (And.intro hpl (And.intro hpb (And.intro hpl2 (And.intro hst hsum)))))
          have HCC := Lib.hid hc
          have HBK0 := Lib.hid (HB1.out.trans (Below.mono HBK.out (by have := HBB.out; omega)))
          have H10 := Lib.hid ((HBK.out.block b0 (by have := HBB.out; omega)).trans H1.out)
          have hz8 := (zero_of_info info8).1
          obtain ⟨Z8, hZ8⟩ : ∃ Z, s8 ⟨0, 0, 0, 0, 0, 0, 0, 0⟩ = Z := ⟨_, rfl⟩
          rw [hZ8] at hz8
          obtain ⟨F8, hF8⟩ : ∃ Z, s8 F0 = Z := ⟨_, rfl⟩
          have HF8 := Lib.hid (And.intro (show (Tryd.prog.info? 23).map (·.size) = some F8.size from by rw [← hF8]; exact s8_size _) (And.intro (show Z8.size = F8.size from by rw [← hF8, ← hZ8]; rfl) (show F8.all (·.oneCell') = true from by rw [← hF8]; exact s8_one _)))
          have HFF := Lib.hid hF8
          clear hpad ho hpl hpb hpl2 hst hsum hpd hLP hC hc hZ8 hF8 HO hk hlt
          go_wp2_with fail
          refine (rfirst_calls _).mono ?_
          rw [HFF.out]
          rintro e w2 ⟨rfl, hb2⟩
          have HC2 := Lib.hid (Kd.C_below HC.out hb2)
          have HB2 := Lib.hid (HBK0.out.trans (Below.mono hb2 (by have := HSK.out; have := HBB.out; omega)))
          have H12 := Lib.hid ((hb2.block b0 (by have := HSK.out; have := HBB.out; omega)).trans H10.out)
          have HS2 := Lib.hid (show b0 < w2.heap.size by have := hb2.size; have := HSK.out; have := HBB.out; omega)
          clear hb2 HC HBK0 H10
          go_wp2_with ((with_reducible show wpList _ _ _ (Oper.mk _ (Op.store _ _ _) _ _ _ _ :: _) _ _); (go_loud (refine wpl_store_new rfl 23 (.tmp 8) (.tmp 45) rfl Z8 F8 rfl rfl HF8.out.1 HF8.out.2.1 HF8.out.2.2 ?_)))
          have HN8 := Lib.hid (show (w2.alloc (.cells F8 23)).heap[w2.heap.size]? = some (.cells (s8 (stN pd 0)) 23 (0, 0)) by rw [heap_alloc_new, show stN pd 0 = F0 from rfl, HFF.out])
          have HB3 := Lib.hid (below_alloc (Below.refl w2.heap.size w2) (.cells F8 23))
          obtain ⟨W3, hW3⟩ : ∃ W, w2.alloc (.cells F8 23) = W := ⟨_, rfl⟩
          rw [hW3] at HN8 HB3 ⊢
          obtain ⟨b8, hb8⟩ : ∃ b, w2.heap.size = b := ⟨_, rfl⟩
          have hs2 := HS2.out
          rw [hb8] at HN8 HB3 hs2 ⊢
          have HW8 := Lib.hid (And.intro hb8 hs2)
          clear hW3 hb8 hs2 hz8
          simp only [Act.put, List.setIfInBounds_toArray, List.set_cons_succ, List.set_cons_zero]
          go_loopw [3] (fun v wx => ∃ (j : Nat) (A' : Option Addr) (c' : Nat), 64 * j ≤ LP ∧ v = .slice A' (LP - 64 * j) c' ∧ LP - 64 * j ≤ c' ∧ Hid (Kd.C (Kd.int .u8) w2 A' (pd.drop (64 * j)).length (pd.drop (64 * j)) ∧ wx.heap[b8]? = some (.cells (s8 (stN pd j)) 23 (0, 0)) ∧ Below b8 w2 wx)) (fun v _ => match v with | .slice _ l _ => l | _ => 0)
          case atStart => exact ⟨0, A, c, by omega, by simp, by have := HCC.out; omega, Lib.hid ⟨by rw [Nat.mul_zero, List.drop_zero, HLP.out.1]; exact HC2.out, HN8.out, HB3.out⟩⟩
          case round =>
            obtain ⟨j, A', c', hj, rfl, hc', H⟩ := hrel
            obtain ⟨hC, h8, hbl⟩ := H.out
            obtain ⟨l, hl⟩ : ∃ l, LP - 64 * j = l := ⟨_, rfl⟩
            have hdl : (pd.drop (64 * j)).length = l := by rw [List.length_drop, HLP.out.1]; exact hl
            rw [hl] at hc' ⊢
            by_cases hlt : 64 * j < LP
            · have hl64 : 64 ≤ l := by have := HLP.out.2.1; omega
              obtain ⟨st, hst⟩ : ∃ st, stN pd j = st := ⟨_, rfl⟩
              have hwd : st.wd := by rw [← hst]; exact stN_wd pd j
              rw [hst] at h8
              have hnx : stN pd (j + 1) = stepS st ((pd.drop (64 * j)).take 64) := by rw [← hst]; rfl
              have hCw := Kd.C_below hC (show Below w2.heap.size w2 wr.drew from by rw [HW8.out.1]; exact below_drew hbl)
              rw [hdl] at hCw
              have htl : ((pd.drop (64 * j)).take 64).length = 64 := by rw [List.length_take, hdl]; omega
              have hC64 := Kd.C_take (m := 64) (by rw [hdl]; exact hCw) (by rw [hdl]; exact hl64)
              rw [htl] at hC64
              have htb : ∀ x ∈ (pd.drop (64 * j)).take 64, 0 ≤ x ∧ x < 256 := fun x hx => HLP.out.2.2.1 x (List.mem_of_mem_drop (List.mem_of_mem_take hx))
              have hstep := step_calls st A' c' _ wr.drew hwd hC64 (by omega) htl htb
              obtain ⟨ns, hns⟩ : ∃ s', stepS st ((pd.drop (64 * j)).take 64) = s' := ⟨_, rfl⟩
              rw [hns] at hstep hnx
              obtain ⟨ra, rb, rc, rd', re, rf, rg, rh⟩ := ns
              have HSTEP := Lib.hid (show Calls Tryd.prog 10 #[.agg #[.int .u32 st.a, .int .u32 st.b, .int .u32 st.c, .int .u32 st.d, .int .u32 st.e, .int .u32 st.f, .int .u32 st.g, .int .u32 st.h], .slice A' 64 c'] wr.drew fun e w' => e = .returned (.agg #[.int .u32 ra, .int .u32 rb, .int .u32 rc, .int .u32 rd', .int .u32 re, .int .u32 rf, .int .u32 rg, .int .u32 rh]) ∧ Below wr.drew.heap.size wr.drew w' from hstep)
              have h8d : wr.drew.heap[b8]? = some (.cells (s8 st) 23 (0, 0)) := h8
              have c0 := (blk_cell h8d 0).trans (show (s8 st)[0]? = some (.int .u32 st.a) from rfl)
              have c1 := (blk_cell h8d 1).trans (show (s8 st)[1]? = some (.int .u32 st.b) from rfl)
              have c2 := (blk_cell h8d 2).trans (show (s8 st)[2]? = some (.int .u32 st.c) from rfl)
              have c3 := (blk_cell h8d 3).trans (show (s8 st)[3]? = some (.int .u32 st.d) from rfl)
              have c4 := (blk_cell h8d 4).trans (show (s8 st)[4]? = some (.int .u32 st.e) from rfl)
              have c5 := (blk_cell h8d 5).trans (show (s8 st)[5]? = some (.int .u32 st.f) from rfl)
              have c6 := (blk_cell h8d 6).trans (show (s8 st)[6]? = some (.int .u32 st.g) from rfl)
              have c7 := (blk_cell h8d 7).trans (show (s8 st)[7]? = some (.int .u32 st.h) from rfl)
              have HW5 := Lib.hid (show ∀ w5 : World, Below wr.drew.heap.size wr.drew w5 → (w5.heap[b8]? = some (.cells (s8 st) 23 (0, 0)) ∧ Below b8 w2 w5) from fun w5 h5 => ⟨(h5.block b8 (blk_lt h8d)).trans h8d, (below_drew hbl).trans (Below.mono h5 (Nat.le_of_lt (blk_lt h8d)))⟩)
              have hCd : Kd.C (Kd.int .u8) w2 (if c' = 64 then A' else A'.map (·.add 64)) (pd.drop (64 * (j + 1))).length (pd.drop (64 * (j + 1))) := by
                have h := Kd.C_drop (m := 64) (c := c') hC (by rw [hdl]; exact hl64) (by rw [hdl]; exact hc')
                rw [List.drop_drop, show 64 * j + 64 = 64 * (j + 1) by omega] at h
                exact h
              obtain ⟨A2, hA2⟩ : ∃ A2, (if c' = 64 then A' else A'.map (·.add 64)) = A2 := ⟨_, rfl⟩
              have hs1 := fun W => slice_first W A' l c' (by omega)
              have hs2 : ∀ W, (Instr.sliceAt 27 (.slice A' l c') (some (.int .i64 64)) none none).run Tryd.prog W = .ok (.slice (if c' = 64 then A' else A'.map (·.add 64)) (l - 64) (c' - 64)) W := fun W => slice_t W A' l c' 64 hl64
              rw [hA2] at hCd hs2
              have HCD := Lib.hid hCd
              have HNX := Lib.hid hnx
              have HJJ := Lib.hid (show 64 * (j + 1) ≤ LP ∧ LP - 64 * (j + 1) = l - 64 ∧ l - 64 ≤ c' - 64 ∧ l - 64 < l by omega)
              have l0 : (0 : Int) < (l : Int) := by omega
              have l1 : (64 : Int) ≤ (l : Int) := by omega
              have hb8s := HW8.out
              clear hC h8 hbl H hl hdl hst hwd hnx hCw htl hC64 htb hstep hns h8d hCd hA2 hj hc' hb8s
              go_wp2_with fail
              go_region_law ((go_simp; go_at_call 10; (with_reducible refine HSTEP.out.mono ?_); rintro e w5 ⟨rfl, hb5⟩; have H85 := Lib.hid (HW5.out w5 hb5).1; have HB5 := Lib.hid (HW5.out w5 hb5).2; have f0 := blk_frozen H85.out 0; have f1 := blk_frozen H85.out 1; have f2 := blk_frozen H85.out 2; have f3 := blk_frozen H85.out 3; have f4 := blk_frozen H85.out 4; have f5 := blk_frozen H85.out 5; have f6 := blk_frozen H85.out 6; have f7 := blk_frozen H85.out 7; have g0 := (blk_cell H85.out 0).trans (show (s8 st)[0]? = some (.int .u32 st.a) from rfl); have g1 := (blk_cell H85.out 1).trans (show (s8 st)[1]? = some (.int .u32 st.b) from rfl); have g2 := (blk_cell H85.out 2).trans (show (s8 st)[2]? = some (.int .u32 st.c) from rfl); have g3 := (blk_cell H85.out 3).trans (show (s8 st)[3]? = some (.int .u32 st.d) from rfl); have g4 := (blk_cell H85.out 4).trans (show (s8 st)[4]? = some (.int .u32 st.e) from rfl); have g5 := (blk_cell H85.out 5).trans (show (s8 st)[5]? = some (.int .u32 st.f) from rfl); have g6 := (blk_cell H85.out 6).trans (show (s8 st)[6]? = some (.int .u32 st.g) from rfl); have g7 := (blk_cell H85.out 7).trans (show (s8 st)[7]? = some (.int .u32 st.h) from rfl); clear hb5))
              all_goals
                clear c0 c1 c2 c3 c4 c5 c6 c7 f0 f1 f2 f3 f4 f5 f6 f7 g0 g1 g2 g3 g4 g5 g6 g7
                go_wp2_with fail
                refine ⟨⟨j + 1, A2, c' - 64, HJJ.out.1, by rw [HJJ.out.2.1], by rw [HJJ.out.2.1]; exact HJJ.out.2.2.1, Lib.hid ⟨HCD.out, by rw [HNX.out]; exact up8 H85.out, upbelow8 HB5.out (Nat.le_refl _)⟩⟩, HJJ.out.2.2.2⟩
            · have hl0 : l = 0 := by omega
              subst hl0
              have hj2 : j = LP / 64 := by have := HLP.out.2.1; omega
              obtain ⟨st, hst⟩ : ∃ st, stOf pd = st := ⟨_, rfl⟩
              have hwd : st.wd := by rw [← hst]; exact stOf_wd pd
              rw [hj2, ← HLP.out.2.2.2.2.1, hst] at h8
              have HSUM := Lib.hid (show sumP bs = outB st by rw [HLP.out.2.2.2.2.2, hst])
              have HWD := Lib.hid hwd
              have H8 := Lib.hid h8
              have hw8 := HW8.out
              have H14 := Lib.hid ((hbl.block b0 (by omega)).trans H12.out)
              have HB4 := Lib.hid (HB2.out.trans (Below.mono hbl (by omega)))
              have HS4 := Lib.hid (show b8 < wr.heap.size from blk_lt h8)
              clear hC h8 hbl H hl hdl hst hwd hj hc' hlt hj2 hw8
              go_wp2_with fail
              have HN9 := Lib.hid (show (wr.alloc (.cells Z0 30)).heap[wr.heap.size]? = some (.cells (nums .u8 (outRow st 0)).toArray 30 (0, 0)) by rw [heap_alloc_new, show outRow st 0 = List.replicate 32 0 from rfl, HZ0.out])
              have H85 := Lib.hid (blk_alloc H8.out (.cells Z0 30))
              have H15 := Lib.hid (blk_alloc H14.out (.cells Z0 30))
              have HB5 := Lib.hid (HB4.out.alloc (by have := HS4.out; have := HW8.out; omega) (.cells Z0 30))
              obtain ⟨W5, hW5⟩ : ∃ W, wr.alloc (.cells Z0 30) = W := ⟨_, rfl⟩
              rw [hW5] at HN9 H85 H15 HB5 ⊢
              obtain ⟨b9, hb9⟩ : ∃ b, wr.heap.size = b := ⟨_, rfl⟩
              have hs4 := HS4.out
              rw [hb9] at HN9 hs4 ⊢
              have HOR := Lib.hid (show b0 < b8 ∧ b8 < b9 from ⟨HW8.out.2, hs4⟩)
              have HU30 := Lib.hid Tryd.underlying30
              clear hW5 hb9 hs4 hz30
              go_loopw [10] (fun i wx => ∃ k : Nat, k ≤ 8 ∧ i = .int .i64 (k : Int) ∧ Hid (wx.heap[b9]? = some (.cells (nums .u8 (outRow st k)).toArray 30 (0, 0)) ∧ wx.heap[b8]? = some (.cells (s8 st) 23 (0, 0)) ∧ wx.heap[b0]? = some (.cells Z0 30 (0, 0)) ∧ Below b0 w wx)) (fun i _ => (8 - intOf i).toNat)
              case atStart => exact ⟨0, by omega, rfl, Lib.hid ⟨HN9.out, H85.out, H15.out, HB5.out⟩⟩
              case round =>
                obtain ⟨k, hk, rfl, H⟩ := hrel
                obtain ⟨h9, h8, h0, hbl⟩ := H.out
                by_cases hlt : k < 8
                · have hx : Wd (st.at8 k) := by
                    have h := HWD.out
                    match k, hlt with
                    | 0, _ => exact h.1.1
                    | 1, _ => exact h.1.2.1
                    | 2, _ => exact h.1.2.2.1
                    | 3, _ => exact h.1.2.2.2
                    | 4, _ => exact h.2.1
                    | 5, _ => exact h.2.2.1
                    | 6, _ => exact h.2.2.2.1
                    | 7, _ => exact h.2.2.2.2
                  have hg4 := great4 hx
                  have hos := fun a b c d h => out_set st k hlt a b c d h
                  have cx := (blk_cell h8 k).trans (show (s8 st)[k]? = some (.int .u32 (st.at8 k)) by rw [s8_arr]; exact arrF_get _ hlt)
                  have hol := outRow_len st k (by omega)
                  have hcell : ∀ o, o < 32 → ∃ z, wr.cell? ⟨b9, o, none⟩ = some (.int .u8 z) := fun o ho => by
                    refine ⟨(outRow st k)[o]'(by omega), ?_⟩
                    rw [blk_cell h9]
                    simp [nums, show o < (outRow st k).length by omega]
                  obtain ⟨x, hxx⟩ : ∃ x, st.at8 k = x := ⟨_, rfl⟩
                  rw [hxx] at hx hg4 cx
                  obtain ⟨va, hva⟩ : ∃ v, x / 16777216 = v := ⟨_, rfl⟩
                  obtain ⟨ub, hub⟩ : ∃ v, x / 65536 = v := ⟨_, rfl⟩
                  obtain ⟨vb, hvb⟩ : ∃ v, ub % 256 = v := ⟨_, rfl⟩
                  obtain ⟨uc, huc⟩ : ∃ v, x / 256 = v := ⟨_, rfl⟩
                  obtain ⟨vc, hvc⟩ : ∃ v, uc % 256 = v := ⟨_, rfl⟩
                  obtain ⟨vd, hvd⟩ : ∃ v, x % 256 = v := ⟨_, rfl⟩
                  rw [hva, hub, hvb, huc, hvc, hvd] at hg4
                  have x0 : 0 ≤ x := hx.1
                  have x1 : x < 4294967296 := hx.2
                  have wa : IntKind.u8.wrap va = va := by rw [IntKind.wrap_u8]; omega
                  have wb : IntKind.u8.wrap vb = vb := by rw [IntKind.wrap_u8]; omega
                  have wc : IntKind.u8.wrap vc = vc := by rw [IntKind.wrap_u8]; omega
                  have wd : IntKind.u8.wrap vd = vd := by rw [IntKind.wrap_u8]; omega
                  have ma : va % 256 = va := by omega
                  have mb : vb % 256 = vb := by omega
                  have mc : vc % 256 = vc := by omega
                  have md : vd % 256 = vd := by omega
                  obtain ⟨o0, ho0⟩ : ∃ o, 4 * k = o := ⟨_, rfl⟩
                  obtain ⟨za, ca⟩ := hcell o0 (by omega)
                  obtain ⟨zb, cb⟩ := hcell (o0 + 1) (by omega)
                  obtain ⟨zc, cc⟩ := hcell (o0 + 2) (by omega)
                  obtain ⟨zd, cd⟩ := hcell (o0 + 3) (by omega)
                  obtain ⟨o1, ho1⟩ : ∃ o, o0 + 1 = o := ⟨_, rfl⟩
                  obtain ⟨o2, ho2⟩ : ∃ o, o0 + 2 = o := ⟨_, rfl⟩
                  obtain ⟨o3, ho3⟩ : ∃ o, o0 + 3 = o := ⟨_, rfl⟩
                  rw [ho1] at cb
                  rw [ho2] at cc
                  rw [ho3] at cd
                  have e0 : 4 * (k : Int) = (o0 : Int) := by omega
                  have e1 : (o0 : Int) + 1 = (o1 : Int) := by omega
                  have e2 : (o0 : Int) + 2 = (o2 : Int) := by omega
                  have e3 : (o0 : Int) + 3 = (o3 : Int) := by omega
                  have p0 : (o0 : Int) < 32 := by omega
                  have p1 : (o1 : Int) < 32 := by omega
                  have p2 : (o2 : Int) < 32 := by omega
                  have p3 : (o3 : Int) < 32 := by omega
                  have i1 : (k : Int) < 8 := by omega
                  have fr := fun o => blk_frozen h9 o
                  have fa := fr o0
                  have fb := fr o1
                  have fc := fr o2
                  have fd := fr o3
                  have hor := HOR.out
                  have n1 : o1 ≠ o0 := by omega
                  have n2 : o2 ≠ o0 ∧ o2 ≠ o1 := by omega
                  have n3 : o3 ≠ o0 ∧ o3 ≠ o1 ∧ o3 ≠ o2 := by omega
                  have n89 : ¬ (b8 = b9) := by omega
                  have HN := Lib.hid (show ((((wr.setCell ⟨b9, o0, none⟩ (.int .u8 va)).setCell ⟨b9, o1, none⟩ (.int .u8 vb)).setCell ⟨b9, o2, none⟩ (.int .u8 vc)).setCell ⟨b9, o3, none⟩ (.int .u8 vd)).heap[b9]? = some (.cells (nums .u8 (outRow st (k + 1))).toArray 30 (0, 0)) ∧ (∀ i, i ≠ b9 → ((((wr.setCell ⟨b9, o0, none⟩ (.int .u8 va)).setCell ⟨b9, o1, none⟩ (.int .u8 vb)).setCell ⟨b9, o2, none⟩ (.int .u8 vc)).setCell ⟨b9, o3, none⟩ (.int .u8 vd)).heap[i]? = wr.heap[i]?) ∧ Below b0 w ((((wr.setCell ⟨b9, o0, none⟩ (.int .u8 va)).setCell ⟨b9, o1, none⟩ (.int .u8 vb)).setCell ⟨b9, o2, none⟩ (.int .u8 vc)).setCell ⟨b9, o3, none⟩ (.int .u8 vd)) from by
                    have hos2 := hos va vb vc vd (by rw [hxx]; exact hg4)
                    rw [ho0, ho1, ho2, ho3] at hos2
                    refine ⟨?_, fun i hi => ?_, ?_⟩
                    · rw [← hos2]
                      exact blk_set (blk_set (blk_set (blk_set h9 o0 _) o1 _) o2 _) o3 _
                    · exact (Below.heap_setCell _ ⟨b9, o3, none⟩ _ i hi).trans ((Below.heap_setCell _ ⟨b9, o2, none⟩ _ i hi).trans ((Below.heap_setCell _ ⟨b9, o1, none⟩ _ i hi).trans (Below.heap_setCell _ ⟨b9, o0, none⟩ _ i hi)))
                    · exact (((hbl.setCell (p := ⟨b9, o0, none⟩) (show b0 ≤ b9 by omega) _).setCell (p := ⟨b9, o1, none⟩) (show b0 ≤ b9 by omega) _).setCell (p := ⟨b9, o2, none⟩) (show b0 ≤ b9 by omega) _).setCell (p := ⟨b9, o3, none⟩) (show b0 ≤ b9 by omega) _)
                  have H88 := Lib.hid (And.intro h8 h0)
                  clear hx hg4 hos hol hcell hxx fr ho0 ho1 ho2 ho3 h9 h8 h0 hbl H hor
                  go_wp2_with fail
                  have hor := HOR.out
                  refine ⟨⟨k + 1, by omega, by go_num, Lib.hid ⟨HN.out.1, (HN.out.2.1 b8 (by omega)).trans H88.out.1, (HN.out.2.1 b0 (by omega)).trans H88.out.2, HN.out.2.2⟩⟩, by simp only [intOf]; omega⟩
                · obtain rfl : k = 8 := by omega
                  obtain ⟨RA, hRA⟩ : ∃ R, (nums .u8 (sumP bs)).toArray = R := ⟨_, rfl⟩
                  have hfin : nums .u8 (outRow st 8) = nums .u8 (sumP bs) := by
                    rw [HSUM.out, ← greats_8]
                    simp [outRow]
                  have hsl : (nums .u8 (sumP bs)).length = 32 := by simp [nums, sumP_len]
                  have HF := Lib.hid (show wr.heap[b9]? = some (.cells RA 30 (0, 0)) by rw [h9, hfin, hRA])
                  have HRS := Lib.hid (show (Tryd.prog.info? 30).map (·.size) = some RA.size ∧ Z0.size = RA.size ∧ RA.all (·.oneCell') = true by
                    have h32 : RA.size = 32 := by rw [← hRA]; exact hsl
                    refine ⟨by rw [h32]; exact (zero_of_info info32b).2, by rw [h32, ← HZ0.out]; rfl, by rw [← hRA]; exact all_oneCell_toArray (nums_one _ _)⟩)
                  have HRR := Lib.hid hRA
                  have HZ := Lib.hid h0
                  have HBL2 := Lib.hid hbl
                  clear h9 h8 h0 hbl H hRA hfin hsl hk hlt
                  rw [show ((8 : Nat) : Int) = 8 from rfl]
                  go_wp2_with (first | ((with_reducible show wpList _ _ _ (Oper.mk _ (Op.load _ _) _ _ _ _ :: _) _ _); (go_loud (refine wpList_load_row rfl 30 (.tmp 9) rfl b9 rfl 30 RA (0, 0) _ HF.out HU30.out rfl HRS.out.1 ?_))) | ((with_reducible show wpList _ _ _ (Oper.mk _ (Op.store _ _ _) _ _ _ _ :: _) _ _); (go_loud (refine wpList_store_row rfl 30 (.tmp 2) (.tmp 96) rfl b0 RA rfl rfl 30 Z0 HZ.out HRS.out.1 HRS.out.2.1 HRS.out.2.2 ?_))))
                  exact bodyPost_ret (results_cell_row rfl _ _ b0 30 RA (0, 0) _ rfl (setRow_heap _ _ _ _ _ _ HZ.out) HU30.out rfl HRS.out.1) rfl ⟨by rw [HRR.out], by rw [HBB.out.1]; exact below_setRow HBL2.out (Nat.le_refl _) _⟩
end Go.Proofs.YtacebcmgdcmmpaaDoor.Hand
