/- The law SfqTime: the walk. -/
import Derived.Test.YtnandakoigmknaaSfqW
import Derived.Deep.DeepCutAuto
import Derived.Deep.CutBlock
namespace Go.Proofs.Ytnandakoigmknaa
open Go.RowKit
open SP
section
variable {W w w' : World} {R : List SP} {b : Nat} {reb : Int} {S : St}

def TimeRel (W : World) (hb cb : Nat) (reb : Int) (v : Value) (wr : World) : Prop :=
  ∃ (i : Nat) (S : St), v = .int .i64 (i : Int) ∧ i ≤ 60 ∧ TInv i S ∧ 0 ≤ S.aw ∧ S.aw ≤ i * 1099511627776 ∧ Own wr [SfqR hb reb S, Ch W cb (1 + 4 * i), old W] ∧ Calm W wr
def TimeMid (W : World) (hb cb : Nat) (reb : Int) (i : Nat) (wr : World) : Prop :=
  ∃ (S : St), TInv i S ∧ 0 ≤ S.aw ∧ S.aw ≤ i * 1099511627776 ∧ Own wr [SfqR hb reb S, Ch W cb (1 + 4 * i + 3), old W] ∧ Calm W wr
def TimeIn (W : World) (hb cb : Nat) (reb : Int) (i : Nat) (a : Option Addr) (cap : Nat) (S : St) (v : Value) (wr : World) : Prop :=
  ∃ (k : Nat), v = .int .i64 (k : Int) ∧ k ≤ S.L.length ∧ Own wr [slc 64 3 a S.L.length cap (flat tagC S.L), SfqR hb reb S, Ch W cb (1 + 4 * (i + 1)), old W] ∧ Calm W wr

set_option maxHeartbeats 6400000 in
set_option maxRecDepth 100000 in
theorem sfqTime_walk (a0 : Option Addr) (len0 cap0 : Nat) (z0 : List Int) (w : World) (w0 : IsRow .i64 w a0 len0 cap0 z0) :
    Calls Try.prog 10 #[.slice a0 len0 cap0] w fun e w' => e = .returned (.bool true) ∧ Below w.heap.size w w' := by
  have oW := Own.start w
  go_enter Try.func10, Try.ntmps10
  go_wp2_with fail
  refine (genNew_spec a0 len0 cap0 z0 w0 oW).mono ?_
  rintro e1 v1 ⟨cb, rfl, o1, k1⟩
  have o2 := ((o1.alloc (.cells #[.int .i64 1099511627776, .int .i64 1, .int .i64 268435456] 2)).up 2).up 2
  go_wp2_with fail
  refine (next_spec w cb 0 3 _ _ (by omega) (by omega) (by omega) o2).mono ?_
  rintro e2 v2 ⟨x, hx0, hx1, rfl, o3, k3⟩
  obtain ⟨j, rfl⟩ : ∃ j : Nat, x = (j : Int) := ⟨x.toNat, by omega⟩
  obtain ⟨reb, hreb, hr1, hr2⟩ : ∃ reb : Int, [Value.int .i64 1099511627776, .int .i64 1, .int .i64 268435456][j]? = some (.int .i64 reb) ∧ 1 ≤ reb ∧ reb ≤ 1099511627776 := by
    have : j = 0 ∨ j = 1 ∨ j = 2 := by omega
    rcases this with rfl | rfl | rfl
    · exact ⟨_, rfl, by omega, by omega⟩
    · exact ⟨_, rfl, by omega, by omega⟩
    · exact ⟨_, rfl, by omega, by omega⟩
  have c := Own.cell (T := 2) (vs := [.int .i64 1099511627776, .int .i64 1, .int .i64 268435456]) (o3.up 2) j hreb
  clear hreb
  go_wp2_with fail
  refine (sfqNew_spec reb hr1 hr2 (o3.up 2).drop).mono ?_
  rintro e4 v4 ⟨hb, rfl, o4, k4⟩
  have hT : TimeRel w hb cb reb (.int .i64 0) v4 := ⟨0, _, rfl, by omega, TInv.start, Int.le_refl _, by simp, o4, k1.trans (k3.al.trans k4)⟩
  clear c
  go_wp2
  go_loopw [6] (fun v wr => TimeRel w hb cb reb v wr) (fun v _ => 60 - (intOf v).toNat)
  case atStart => exact hT
  case round =>
    clear hT o4 k4 o3 k3 o2 o1 k1
    obtain ⟨i, S, rfl, hi, hI, ha0, ha1, oR, kR⟩ := hrel
    by_cases hlt : i < 60
    · go_wp2_with fail
      refine (next_spec w cb (1 + 4 * i) 4 _ _ (by omega) (by omega) (by omega) (oR.re [1, 2, 0])).mono ?_
      rintro e5 w5 ⟨x, hx0, hx1, rfl, o5, k5⟩
      have HI := Lib.hid hI
      clear hI
      go_upto_block 2 with fail
      go_cut [38] (fun _ wc => TimeMid w hb cb reb i wc)
      case first =>
        by_cases h0 : x = 0
        · subst h0
          go_wp2_with fail
          refine (next_spec w cb (1 + 4 * i + 1) 5 _ _ (by omega) (by omega) (by omega) o5).mono ?_
          rintro e6 w6 ⟨y, hy0, hy1, rfl, o6, k6⟩
          go_wp2_with fail
          refine (sfqJoin_spec y 1 (o6.re [2, 0, 1])).mono ?_
          rintro e7 w7 ⟨rfl, o7, k7⟩
          go_wp2
          go_meet
          exact ⟨_, HI.out.join _ _, by rw [joinR_aw]; exact ha0, by rw [joinR_aw]; exact ha1, (Ch.upto (M := 1 + 4 * i + 3) (o7.up 1)).re [1, 0, 2], kR.trans (k5.trans (k6.trans k7))⟩
        · by_cases h1 : x = 1
          · subst h1
            go_wp2_with fail
            refine (next_spec w cb (1 + 4 * i + 1) 3 _ _ (by omega) (by omega) (by omega) o5).mono ?_
            rintro e6 w6 ⟨y, hy0, hy1, rfl, o6, k6⟩
            by_cases h2 : y = 0
            · subst h2
              go_wp2_with fail
              refine (next_spec w cb (1 + 4 * i + 2) 5 _ _ (by omega) (by omega) (by omega) o6).mono ?_
              rintro e7 w7 ⟨z, hz0, hz1, rfl, o7, k7⟩
              go_wp2_with fail
              refine (sfqLeave_spec z (o7.re [2, 0, 1])).mono ?_
              rintro e8 w8 ⟨rfl, o8, k8⟩
              go_wp2
              go_meet
              exact ⟨_, HI.out.leave _, by rw [leaveR_aw]; exact ha0, by rw [leaveR_aw]; exact ha1, o8, kR.trans (k5.trans (k6.trans (k7.trans k8)))⟩
            · have hyb : (y == 0) = false := by simpa using h2
              go_wp2
              go_meet
              exact ⟨S, HI.out, ha0, ha1, (Ch.upto (M := 1 + 4 * i + 3) o6).re [2, 0, 1], kR.trans (k5.trans k6)⟩
          · have hxb : (x == 0) = false := by simpa using h0
            have hxc : (x == 1) = false := by simpa using h1
            go_wp2
            go_meet
            exact ⟨S, HI.out, ha0, ha1, (Ch.upto (M := 1 + 4 * i + 3) o5).re [2, 0, 1], kR.trans k5⟩
      case rest =>
        obtain ⟨S1, hI1, hb0, hb1, o6, k6⟩ := hcut
        clear oR kR o5 k5 HI ha0 ha1 S hx0 hx1
        have hs := sfqSelect_spec o6
        by_cases hz : S1.L = []
        · have e1 : selT S1.L = (0, 5) := if_pos hz
          rw [e1] at hs
          dsimp only at hs
          have HI := Lib.hid hI1.next
          clear hI1 e1
          go_wp2_with fail
          refine hs.mono ?_
          rintro e7 w7 ⟨rfl, o7, k7⟩
          go_wp2_with fail
          refine (sfqTags_spec o7).mono ?_
          rintro e8 w8 ⟨a, cap, rfl, o8, k8⟩
          have hT2 : TimeIn w hb cb reb i a cap S1 (.int .i64 0) w8 := ⟨0, rfl, by omega, (Ch.upto (M := 1 + 4 * (i + 1)) (o8.up 2)).re [1, 2, 0, 3], k6.trans (k7.trans k8)⟩
          have hl0 : S1.L.length = 0 := by rw [hz]; rfl
          have HL := Lib.hid hl0
          clear hz hl0
          go_wp2
          go_loopw [10] (fun v wr => TimeIn w hb cb reb i a cap S1 v wr) (fun v _ => S1.L.length - (intOf v).toNat)
          case atStart => exact hT2
          case round =>
            clear hT2 o8 k8 o7 k7 o6 k6 hs
            obtain ⟨k, rfl, hk, oS, kS⟩ := hrel
            have hk0 : ¬ k < S1.L.length := by have := HL.out; omega
            go_wp2
            go_roundw
            case rel => exact ⟨i + 1, S1, by go_num, by omega, HI.out, hb0, by push_cast; omega, oS.drop, kS⟩
            case measure => simp [intOf]; omega
        · have e1 : selT S1.L = ((lst S1.L).f, 0) := if_neg hz
          rw [e1] at hs
          dsimp only at hs
          clear e1
          go_wp2_with fail
          refine hs.mono ?_
          rintro e7 w7 ⟨rfl, o7, k7⟩
          go_wp2_with fail
          refine (length_spec (W := w) (b := cb) (1 + 4 * i + 3) (by omega) (o7.re [1, 2, 0])).mono ?_
          rintro e8 w8 ⟨n, hn1, hn2, rfl, o8, k8⟩
          have hch := sfqCharge_spec (lst S1.L).f n (by omega) (o8.re [2, 0, 1])
          have haw := chargeR_aw reb hI1.ok (lst S1.L).f n
          obtain ⟨hc1, hc2⟩ := hI1.charge (by omega) hz hn1 hn2 reb
          rw [hc1] at hch haw
          dsimp only at hch haw
          have HI := Lib.hid hc2
          clear hI1 hc1 hc2 hs
          generalize rebS reb (chS S1 (lst S1.L) ((lst S1.L).s + cst n (lst S1.L).w)) = S2 at *
          have hd0 : 0 ≤ S2.aw := by omega
          have hd1 : S2.aw ≤ ((i + 1 : Nat) : Int) * 1099511627776 := by push_cast; omega
          go_wp2_with fail
          refine hch.mono ?_
          rintro e9 w9 ⟨rfl, o9, k9⟩
          go_wp2_with fail
          refine (sfqTags_spec o9).mono ?_
          rintro e10 w10 ⟨a, cap, rfl, o10, k10⟩
          have hT2 : TimeIn w hb cb reb i a cap S2 (.int .i64 0) w10 := ⟨0, rfl, by omega, (Ch.upto (M := 1 + 4 * (i + 1)) (o10.up 2)).re [1, 2, 0, 3], k6.trans (k7.trans (k8.trans (k9.trans k10)))⟩
          have hl32 := HI.out.ok.ok.len
          go_wp2
          go_loopw [10] (fun v wr => TimeIn w hb cb reb i a cap S2 v wr) (fun v _ => S2.L.length - (intOf v).toNat)
          case atStart => exact hT2
          case round =>
            clear hT2 o10 k10 o9 k9 o8 k8 o7 k7 o6 k6 hch haw hz
            obtain ⟨k, rfl, hk, oS, kS⟩ := hrel
            by_cases hlk : k < S2.L.length
            · obtain ⟨t, ht⟩ : ∃ t, S2.L[k]? = some t := ⟨_, List.getElem?_eq_getElem hlk⟩
              obtain ⟨g, so, rfl, d0, d1, d2⟩ := tagsAt_slc a S2.L.length cap S2.L rfl _ _ oS k t ht
              have hact := HI.out.act t (List.mem_of_getElem? ht)
              have htm := HI.out.ok.tm
              have ct := fun n => IsRet.still (sfqTime_spec ((oS.up 1).drewN n))
              have ct1 := IsRet.still (sfqTime_spec ((oS.up 1).drew))
              have hw2 : IntKind.i64.wrap (S2.tm + 2952069120) = S2.tm + 2952069120 := by rw [IntKind.wrap_i64]; omega
              have hz2 : decide (t.s < S2.tm) = false := by simp; omega
              have hz3 : decide (S2.tm + 2952069120 < t.s) = false := by simp; omega
              clear ht
              go_wp2
              refine wp_region_tail 17 (by kernel_rfl) (by kernel_rfl) ?_
              simp only [List.take_succ_cons, List.take_zero, List.drop_succ_cons, List.drop_zero]
              repeat (first | still_step | still_call ct1)
              refine wpStill_nil ?_
              go_wp2
              go_roundw
              case rel => exact ⟨k + 1, by go_num, by omega, oS.drew, kS.d1⟩
              case measure => simp [intOf]; omega
            · go_wp2
              go_roundw
              case rel => exact ⟨i + 1, S2, by go_num, by omega, HI.out, hd0, hd1, oS.drop, kS⟩
              case measure => simp [intOf]; omega
    · go_wp2_with fail
      refine (awake13_spec oR).mono ?_
      rintro e9 w9 ⟨rfl, o9, k9⟩
      go_wp2
      go_ret
      exact ⟨rfl, (o9.up 2).below (kR.trans k9)⟩
end
end Go.Proofs.Ytnandakoigmknaa
