/- The law SfqFair: the walk. -/
import Derived.Test.YtnandakoigmknaaSfqF
import Derived.Deep.DeepCutAuto
import Derived.Deep.CutBlock
import Derived.Deep.RegionWith
namespace Go.Proofs.Ytnandakoigmknaa
open Go.RowKit
open SP
section
variable {W w w' : World} {R : List SP} {b : Nat} {reb : Int} {S : St}

theorem fair_start {wa wb : Int} (h1 : 1 ≤ wa) (h2 : wa ≤ 16) (h3 : 1 ≤ wb) (h4 : wb ≤ 16) : TInv 0 (joinR (joinR St0 0 wa).2 1 wb).2 ∧ (joinR (joinR St0 0 wa).2 1 wb).2.aw = 0 ∧
    FA 0 wa 0 (joinR (joinR St0 0 wa).2 1 wb).2 ∧ FA 1 wb 0 (joinR (joinR St0 0 wa).2 1 wb).2 := by
  have ua := unit1_range h1 h2
  have ub := unit1_range h3 h4
  have hT : TInv 0 (joinR St0 0 wa).2 := TInv.start.join 0 wa
  have e1 : joinE St0 0 wa = 0 := by unfold joinE; rw [if_neg (by omega)]; rfl
  have e2 : joinR St0 0 wa = (0, joinS St0 0 wa) := by unfold joinR; rw [e1, if_pos rfl]
  have hF : FA 0 wa 0 (joinR St0 0 wa).2 := by
    rw [e2]
    exact ⟨⟨0, wa, 0⟩, rfl, rfl, by show (0 : Int) ≤ 0 + _; omega, by show (0 : Int) + 0 = _; simp⟩
  have e3 : joinE (joinR St0 0 wa).2 1 wb = 0 := by rw [e2]; unfold joinE; rw [if_neg (by omega)]; rfl
  have e4 : joinR (joinR St0 0 wa).2 1 wb = (0, joinS (joinR St0 0 wa).2 1 wb) := by unfold joinR at e3 ⊢; rw [e3, if_pos rfl]
  refine ⟨hT.join 1 wb, by rw [joinR_aw, joinR_aw]; rfl, hF.join hT.ok, ?_⟩
  rw [e4, e2]
  exact ⟨⟨1, wb, 0⟩, rfl, rfl, by show (0 : Int) ≤ 0 + _; omega, by show (0 : Int) + 0 = _; simp⟩

theorem fair_end {i : Nat} {wa wb ba bb : Int} (hT : TInv i S) (h1 : FA 0 wa ba S) (h2 : FA 1 wb bb S) : max (ba * unit1 wa - bb * unit1 wb) (bb * unit1 wb - ba * unit1 wa) ≤ 4096 * unit1 wa + 4096 * unit1 wb := by
  obtain ⟨t, t1, t2, t3, t4⟩ := h1
  obtain ⟨u, u1, u2, u3, u4⟩ := h2
  have a1 := hT.act t (fget_some t1).1
  have a2 := hT.act u (fget_some u1).1
  omega

def FairRel (W : World) (hb cb xb yb : Nat) (reb wa wb : Int) (v : Value) (wr : World) : Prop :=
  ∃ (i : Nat) (S : St) (ba bb ma mb : Int), v = .int .i64 (i : Int) ∧ i ≤ 60 ∧ TInv i S ∧ (0 ≤ S.aw ∧ S.aw ≤ i * 1099511627776) ∧ FA 0 wa ba S ∧ FA 1 wb bb S ∧ (0 ≤ ba ∧ ba ≤ i * 4096) ∧ (0 ≤ bb ∧ bb ≤ i * 4096) ∧ (0 ≤ ma ∧ ma ≤ 4096) ∧ (0 ≤ mb ∧ mb ≤ 4096) ∧
    Own wr [SfqR hb reb S, cel xb 67 (smp wa ba ma), cel yb 67 (smp wb bb mb), Ch W cb (3 + 4 * i), old W] ∧ Calm W wr
def FairMid (W : World) (hb cb xb yb : Nat) (reb wa wb : Int) (i : Nat) (ba bb ma mb : Int) (wr : World) : Prop :=
  ∃ (S : St), TInv i S ∧ (0 ≤ S.aw ∧ S.aw ≤ i * 1099511627776) ∧ FA 0 wa ba S ∧ FA 1 wb bb S ∧
    Own wr [SfqR hb reb S, cel xb 67 (smp wa ba ma), cel yb 67 (smp wb bb mb), Ch W cb (3 + 4 * i + 3), old W] ∧ Calm W wr
def FairEnd (W : World) (hb cb : Nat) (reb wa wb : Int) (S : St) (ba bb ma mb : Int) (v12 v13 : Value) (wr : World) : Prop :=
  ∃ (p q : Nat), v12 = .pointer (some ⟨p, 0, none⟩) ∧ v13 = .pointer (some ⟨q, 0, none⟩) ∧ Own wr [cel p 67 (smp wa ba ma), cel q 67 (smp wb bb mb), SfqR hb reb S, Ch W cb 1000, old W] ∧ Calm W wr

set_option maxHeartbeats 6400000 in
set_option maxRecDepth 100000 in
theorem sfqFair_walk (a0 : Option Addr) (len0 cap0 : Nat) (z0 : List Int) (w : World) (w0 : IsRow .i64 w a0 len0 cap0 z0) :
    Calls Try.prog 8 #[.slice a0 len0 cap0] w fun e w' => e = .returned (.bool true) ∧ Below w.heap.size w w' := by
  have oW := Own.start w
  go_enter Try.func8, Try.ntmps8
  go_wp2_with fail
  refine (genNew_spec a0 len0 cap0 z0 w0 oW).mono ?_
  rintro e1 v1 ⟨cb, rfl, o1, k1⟩
  have o2 := ((o1.alloc (.cells #[.int .i64 1099511627776, .int .i64 536870912] 2)).up 2).up 2
  go_wp2_with fail
  refine (next_spec w cb 0 2 _ _ (by omega) (by omega) (by omega) o2).mono ?_
  rintro e2 v2 ⟨x, hx0, hx1, rfl, o3, k3⟩
  obtain ⟨j, rfl⟩ : ∃ j : Nat, x = (j : Int) := ⟨x.toNat, by omega⟩
  obtain ⟨reb, hreb, hr1, hr2⟩ : ∃ reb : Int, [Value.int .i64 1099511627776, .int .i64 536870912][j]? = some (.int .i64 reb) ∧ 1 ≤ reb ∧ reb ≤ 1099511627776 := by
    have : j = 0 ∨ j = 1 := by omega
    rcases this with rfl | rfl
    · exact ⟨_, rfl, by omega, by omega⟩
    · exact ⟨_, rfl, by omega, by omega⟩
  have c := Own.cell (T := 2) (vs := [.int .i64 1099511627776, .int .i64 536870912]) (o3.up 2) j hreb
  clear hreb
  go_wp2_with fail
  refine (sfqNew_spec reb hr1 hr2 (o3.up 2).drop).mono ?_
  rintro e4 v4 ⟨hb, rfl, o4, k4⟩
  clear c
  go_wp2_with fail
  refine (weight_spec (W := w) (b := cb) 1 (by omega) (o4.re [1, 2, 0])).mono ?_
  rintro e5 v5 ⟨wa, ha1, ha2, rfl, o5, k5⟩
  go_wp2_with fail
  refine (weight_spec (W := w) (b := cb) 2 (by omega) o5).mono ?_
  rintro e6 v6 ⟨wb, hb1, hb2, rfl, o6, k6⟩
  have o7 : Own ((v6.alloc (.cells #[.int .i64 wa, .int .i64 0, .int .i64 0] 67)).alloc (.cells #[.int .i64 wb, .int .i64 0, .int .i64 0] 67)) [SfqR hb reb St0, cel v6.heap.size 67 (smp wa 0 0), cel (v6.heap.size + 1) 67 (smp wb 0 0), Ch w cb 3, old w] := by
    have := (o6.alloc (.cells #[.int .i64 wa, .int .i64 0, .int .i64 0] 67)).alloc (.cells #[.int .i64 wb, .int .i64 0, .int .i64 0] 67)
    simp only [World.size_alloc] at this
    exact this.re [4, 1, 0, 2, 3]
  have K7 : Calm w v6 := k1.trans (k3.al.trans (k4.trans (k5.trans k6)))
  clear o1 o2 o3 o4 o5 o6 k1 k3 k4 k5 k6
  obtain ⟨hS1, hS2, hS3, hS4⟩ := fair_start ha1 ha2 hb1 hb2
  have HS := Lib.hid (And.intro hS1 (And.intro hS2 (And.intro hS3 hS4)))
  clear hS1 hS2 hS3 hS4
  go_wp2_with fail
  refine (sfqJoin_spec 0 wa o7).mono ?_
  rintro e8 v8 ⟨rfl, o8, k8⟩
  have c0 := (o8.up 2).cell 0
  have d0 := (o8.up 1).cell 0
  go_wp2_with fail
  refine (sfqJoin_spec 1 wb o8).mono ?_
  rintro e9 v9 ⟨rfl, o9, k9⟩
  clear c0 d0
  have K9 : Calm w v9 := by have := Calm.trans k8 k9; exact K7.trans ⟨this.os, this.tape, this.output⟩
  generalize hxb : v6.heap.size = xb at *
  have hT : FairRel w hb cb xb (xb + 1) reb wa wb (.int .i64 0) v9 := ⟨0, _, 0, 0, 0, 0, rfl, by omega, HS.out.1, by rw [HS.out.2.1]; simp, HS.out.2.2.1, HS.out.2.2.2, by simp, by simp, by simp, by simp, o9, K9⟩
  clear o7 o8 o9 k8 k9 K9 K7 HS hxb
  go_wp2
  go_loopw [8] (fun v wr => FairRel w hb cb xb (xb + 1) reb wa wb v wr) (fun v _ => 60 - (intOf v).toNat)
  case atStart => exact hT
  case round =>
    clear hT
    obtain ⟨i, S, ba, bb, ma, mb, rfl, hi, hI, haw, hFa, hFb, hba, hbb, hma, hmb, oR, kR⟩ := hrel
    by_cases hlt : i < 60
    · go_wp2_with fail
      refine (next_spec w cb (3 + 4 * i) 6 _ _ (by omega) (by omega) (by omega) (oR.re [3, 4, 0, 1, 2])).mono ?_
      rintro e5 w5 ⟨x, hx0, hx1, rfl, o5, k5⟩
      have HI := Lib.hid hI
      have HA := Lib.hid hFa
      have HB := Lib.hid hFb
      clear hI hFa hFb oR
      go_upto_block 2 with fail
      go_cut [66] (fun _ wc => FairMid w hb cb xb (xb + 1) reb wa wb i ba bb ma mb wc)
      case first =>
        by_cases h0 : x = 0
        · subst h0
          go_wp2_with fail
          refine (next_spec w cb (3 + 4 * i + 1) 3 _ _ (by omega) (by omega) (by omega) o5).mono ?_
          rintro e6 w6 ⟨y, hy0, hy1, rfl, o6, k6⟩
          go_wp2_with fail
          refine (weight_spec (W := w) (b := cb) (3 + 4 * i + 2) (by omega) o6).mono ?_
          rintro e7 w7 ⟨wt, hw0, hw1, rfl, o7, k7⟩
          go_wp2_with fail
          refine (sfqJoin_spec (2 + y) wt (o7.re [2, 3, 4, 0, 1])).mono ?_
          rintro e8 w8 ⟨rfl, o8, k8⟩
          go_wp2
          go_meet
          exact ⟨_, HI.out.join _ _, by rw [joinR_aw]; exact haw, HA.out.join HI.out.ok, HB.out.join HI.out.ok, o8, kR.trans (k5.trans (k6.trans (k7.trans k8)))⟩
        · by_cases h1 : x = 1
          · subst h1
            go_wp2_with fail
            refine (next_spec w cb (3 + 4 * i + 1) 3 _ _ (by omega) (by omega) (by omega) o5).mono ?_
            rintro e6 w6 ⟨y, hy0, hy1, rfl, o6, k6⟩
            go_wp2_with fail
            refine (sfqLeave_spec (2 + y) (o6.re [2, 3, 4, 0, 1])).mono ?_
            rintro e8 w8 ⟨rfl, o8, k8⟩
            go_wp2
            go_meet
            exact ⟨_, HI.out.leave _, by rw [leaveR_aw]; exact haw, HA.out.leave (by omega), HB.out.leave (by omega), (Ch.upto (M := 3 + 4 * i + 3) (o8.up 3)).re [1, 2, 3, 0, 4], kR.trans (k5.trans (k6.trans k8))⟩
          · have hxb : (x == 0) = false := by simpa using h0
            have hxc : (x == 1) = false := by simpa using h1
            go_wp2
            go_meet
            exact ⟨S, HI.out, haw, HA.out, HB.out, (Ch.upto (M := 3 + 4 * i + 3) o5).re [2, 3, 4, 0, 1], kR.trans k5⟩
      case rest =>
        obtain ⟨S1, hI1, haw1, hA1, hB1, o6, k6⟩ := hcut
        clear o5 kR k5 HI HA HB haw hx0 hx1
        have hz : S1.L ≠ [] := by
          obtain ⟨t, ht, _⟩ := hA1
          exact List.ne_nil_of_mem (fget_some ht).1
        have e1 : selT S1.L = ((lst S1.L).f, 0) := if_neg hz
        have hs := sfqSelect_spec o6
        rw [e1] at hs
        dsimp only at hs
        clear e1
        go_wp2_with fail
        refine hs.mono ?_
        rintro e7 w7 ⟨rfl, o7, k7⟩
        go_wp2_with fail
        refine (length_spec (W := w) (b := cb) (3 + 4 * i + 3) (by omega) (o7.re [3, 4, 0, 1, 2])).mono ?_
        rintro e8 w8 ⟨n, hn1, hn2, rfl, o8, k8⟩
        have hch := sfqCharge_spec (lst S1.L).f n (by omega) (o8.re [2, 3, 4, 0, 1])
        have haw2 := chargeR_aw reb hI1.ok (lst S1.L).f n
        obtain ⟨hc1, hc2⟩ := hI1.charge (by omega) hz hn1 hn2 reb
        have hA2 := (hA1.ch hI1 hz (len := n) (by omega)).reb (r := reb)
        have hB2 := (hB1.ch hI1 hz (len := n) (by omega)).reb (r := reb)
        rw [hc1] at hch haw2
        dsimp only at hch haw2
        have HI := Lib.hid hc2
        clear hI1 hc1 hc2 hs hA1 hB1
        generalize rebS reb (chS S1 (lst S1.L) ((lst S1.L).s + cst n (lst S1.L).w)) = S2 at *
        have hd1 : 0 ≤ S2.aw ∧ S2.aw ≤ ((i + 1 : Nat) : Int) * 1099511627776 := by push_cast; omega
        generalize (lst S1.L).f = f at *
        have HA := Lib.hid hA2
        have HB := Lib.hid hB2
        clear hA2 hB2 haw2 hz haw1
        go_wp2_with fail
        refine hch.mono ?_
        rintro e9 w9 ⟨rfl, o9, k9⟩
        have K9 := k6.trans (k7.trans (k8.trans k9))
        clear hch o6 o7 o8 k6 k7 k8 k9
        have e4 : 3 + 4 * (i + 1) = 3 + 4 * i + 3 + 1 := by omega
        by_cases h0 : f = 0
        · subst h0
          have hA := HA.out
          have hB := HB.out
          rw [if_pos rfl] at hA
          rw [if_neg (by omega)] at hB
          have og := o9.up 1
          have c1 := og.cell 1
          have c2 := og.cell 2
          have cf := og.frozen
          have cl := og.celLt
          have on := (og.setCell 1 (.int .i64 (ba + n))).setCell 2 (.int .i64 (max ma n))
          have HA2 := Lib.hid hA
          have HB2 := Lib.hid hB
          clear hA hB HA HB
          go_wp2
          go_roundw
          case rel => exact ⟨i + 1, S2, ba + n, bb, max ma n, mb, by go_num, by omega, HI.out, hd1, HA2.out, HB2.out, by push_cast; omega, by push_cast; omega, by omega, by omega, by rw [e4]; exact on.re [1, 0, 2, 3, 4], ⟨K9.os, K9.tape, K9.output⟩⟩
          case measure => simp [intOf]; omega
        · have h0b : (f == 0) = false := by simpa using h0
          by_cases h1 : f = 1
          · subst h1
            have hA := HA.out
            have hB := HB.out
            rw [if_neg (by omega)] at hA
            rw [if_pos rfl] at hB
            have og := o9.up 2
            have c1 := og.cell 1
            have c2 := og.cell 2
            have cf := og.frozen
            have cl := og.celLt
            have on := (og.setCell 1 (.int .i64 (bb + n))).setCell 2 (.int .i64 (max mb n))
            have HA2 := Lib.hid hA
            have HB2 := Lib.hid hB
            clear hA hB HA HB
            go_wp2
            go_roundw
            case rel => exact ⟨i + 1, S2, ba, bb + n, ma, max mb n, by go_num, by omega, HI.out, hd1, HA2.out, HB2.out, by push_cast; omega, by push_cast; omega, by omega, by omega, by rw [e4]; exact on.re [1, 2, 0, 3, 4], ⟨K9.os, K9.tape, K9.output⟩⟩
            case measure => simp [intOf]; omega
          · have h1b : (f == 1) = false := by simpa using h1
            have hA := HA.out
            have hB := HB.out
            rw [if_neg h0] at hA
            rw [if_neg h1] at hB
            have HA2 := Lib.hid hA
            have HB2 := Lib.hid hB
            clear hA hB HA HB
            go_wp2
            go_roundw
            case rel => exact ⟨i + 1, S2, ba, bb, ma, mb, by go_num, by omega, HI.out, hd1, HA2.out, HB2.out, by push_cast; omega, by push_cast; omega, by omega, by omega, by rw [e4]; exact o9, K9⟩
            case measure => simp [intOf]; omega
    · have hfe := fair_end hI hFa hFb
      have HFE := Lib.hid hfe
      have c0 := (oR.up 1).cell 0
      have c1 := (oR.up 1).cell 1
      have c2 := (oR.up 1).cell 2
      have d0 := (oR.up 2).cell 0
      have d1 := (oR.up 2).cell 1
      have d2 := (oR.up 2).cell 2
      have cl1 := (oR.up 1).celLt
      have cl2 := (oR.up 2).celLt
      clear hfe hI hFa hFb
      have o60 := Ch.upto (M := 1000) (oR.up 3)
      have hsa : SmpOk wa ba 4096 := ⟨ha1, ha2, by omega, by omega, by omega, by omega⟩
      have hsb : SmpOk wb bb 4096 := ⟨hb1, hb2, by omega, by omega, by omega, by omega⟩
      have fin1 : Own ((((wr.alloc (.cells #[.int .i64 wa, .int .i64 ba, .int .i64 ma] 67)).alloc (.cells #[.int .i64 wb, .int .i64 bb, .int .i64 mb] 67))).drew) [cel wr.heap.size 67 (smp wa ba ma), cel (wr.heap.size + 1) 67 (smp wb bb mb), SfqR hb reb S, Ch w cb 1000, old w] := by
        have := (o60.alloc (.cells #[.int .i64 wa, .int .i64 ba, .int .i64 ma] 67)).alloc (.cells #[.int .i64 wb, .int .i64 bb, .int .i64 mb] 67)
        simp only [World.size_alloc] at this
        exact (this.drew).re [4, 5, 1, 0, 3, 2, 6] 2
      have fin2 : Own ((((wr.alloc (.cells #[.int .i64 wb, .int .i64 bb, .int .i64 mb] 67)).alloc (.cells #[.int .i64 wa, .int .i64 ba, .int .i64 ma] 67))).drew) [cel (wr.heap.size + 1) 67 (smp wa ba ma), cel wr.heap.size 67 (smp wb bb mb), SfqR hb reb S, Ch w cb 1000, old w] := by
        have := (o60.alloc (.cells #[.int .i64 wb, .int .i64 bb, .int .i64 mb] 67)).alloc (.cells #[.int .i64 wa, .int .i64 ba, .int .i64 ma] 67)
        simp only [World.size_alloc] at this
        exact (this.drew).re [4, 5, 0, 1, 3, 2, 6] 2
      have F1 := Lib.hid fin1
      have F2 := Lib.hid fin2
      clear fin1 fin2
      go_upto_region 25 with fail
      go_cut [12, 13] (fun v12 v13 wc => FairEnd w hb cb reb wa wb S ba bb ma mb v12 v13 wc)
      case first =>
        go_region_with (fail)
        all_goals go_wp2
        all_goals go_meet
        all_goals first
          | exact ⟨wr.heap.size, wr.heap.size + 1, rfl, rfl, F1.out, ⟨kR.os, kR.tape, kR.output⟩⟩
          | exact ⟨wr.heap.size + 1, wr.heap.size, rfl, rfl, F2.out, ⟨kR.os, kR.tape, kR.output⟩⟩
      case rest =>
        obtain ⟨p, q, rfl, rfl, oE, kE⟩ := hcut
        have x2 := oE.cell 2
        have xf := oE.frozen
        have xl := oE.celLt
        have oE1 := (oE.setCell 2 (.int .i64 4096)).swap
        have y2 := oE1.cell 2
        have yf := oE1.frozen
        have yl := oE1.celLt
        have oE2 := (oE1.setCell 2 (.int .i64 4096))
        have z0 := oE2.cell 0
        have z1 := oE2.cell 1
        have z2 := oE2.cell 2
        have t0 := (oE2.up 1).cell 0
        have t1 := (oE2.up 1).cell 1
        have t2 := (oE2.up 1).cell 2
        go_wp2_with fail
        refine (fair_spec hsa hsb HFE.out oE2).mono ?_
        rintro e9 w9 ⟨rfl, o9, k9⟩
        go_wp2_with fail
        refine (awake13_spec o9).mono ?_
        rintro e10 w10 ⟨rfl, o10, k10⟩
        go_wp2
        go_ret
        exact ⟨rfl, (o10.up 4).below (by have := Calm.trans k9 k10; exact kE.trans ⟨this.os, this.tape, this.output⟩)⟩
end
end Go.Proofs.Ytnandakoigmknaa
