/- The law SfqRebase: the walk. -/
import Derived.Test.YtnandakoigmknaaSfqW
namespace Go.Proofs.Ytnandakoigmknaa
open Go.RowKit
open SP
section
variable {W w w' : World} {R : List SP} {b : Nat} {reb : Int} {S : St}

def RbRel (W : World) (ha hb cb : Nat) (v : Value) (wr : World) : Prop :=
  ∃ (i : Nat) (d : Int) (A B : St), v = .int .i64 (i : Int) ∧ i ≤ 50 ∧ PInv i d A B ∧ (0 ≤ A.aw ∧ A.aw ≤ i * 1099511627776) ∧ (0 ≤ B.aw ∧ B.aw ≤ i * 1099511627776) ∧
    Own wr [SfqR ha 1 A, SfqR hb 1099511627776 B, Ch W cb (4 * i), old W] ∧ Calm W wr
def RbMid (W : World) (ha hb cb : Nat) (i : Nat) (wr : World) : Prop :=
  ∃ (d : Int) (A B : St), PInv i d A B ∧ (0 ≤ A.aw ∧ A.aw ≤ i * 1099511627776) ∧ (0 ≤ B.aw ∧ B.aw ≤ i * 1099511627776) ∧
    Own wr [SfqR ha 1 A, SfqR hb 1099511627776 B, Ch W cb (4 * i + 3), old W] ∧ Calm W wr

set_option maxHeartbeats 6400000 in
set_option maxRecDepth 100000 in
theorem sfqRebase_walk (a0 : Option Addr) (len0 cap0 : Nat) (z0 : List Int) (w : World) (w0 : IsRow .i64 w a0 len0 cap0 z0) :
    Calls Try.prog 9 #[.slice a0 len0 cap0] w fun e w' => e = .returned (.bool true) ∧ Below w.heap.size w w' := by
  have oW := Own.start w
  go_enter Try.func9, Try.ntmps9
  go_wp2_with fail
  refine (genNew_spec a0 len0 cap0 z0 w0 oW).mono ?_
  rintro e1 v1 ⟨cb, rfl, o1, k1⟩
  go_wp2_with fail
  refine (sfqNew_spec 1 (by decide) (by decide) o1).mono ?_
  rintro e2 v2 ⟨ha, rfl, o2, k2⟩
  go_wp2_with fail
  refine (sfqNew_spec 1099511627776 (by decide) (by decide) o2).mono ?_
  rintro e3 v3 ⟨hb, rfl, o3, k3⟩
  have hT : RbRel w ha hb cb (.int .i64 0) v3 := ⟨0, 0, _, _, rfl, by omega, PInv.start, by simp, by simp, o3.swap, k1.trans (k2.trans k3)⟩
  go_wp2
  go_loopw [8] (fun v wr => RbRel w ha hb cb v wr) (fun v _ => 50 - (intOf v).toNat)
  case atStart => exact hT
  case round =>
    clear hT o3 k3 o2 k2 o1 k1
    obtain ⟨i, d, A, B, rfl, hi, hI, ha0, hb0, oR, kR⟩ := hrel
    by_cases hlt : i < 50
    · go_wp2_with fail
      refine (next_spec w cb (4 * i) 5 _ _ (by omega) (by omega) (by omega) (oR.re [2, 3, 0, 1])).mono ?_
      rintro e5 w5 ⟨k, hk0, hk1, rfl, o5, k5⟩
      go_wp2_with fail
      refine (weight_spec (W := w) (b := cb) (4 * i + 1) (by omega) o5).mono ?_
      rintro e6 w6 ⟨wt, hw0, hw1, rfl, o6, k6⟩
      go_wp2_with fail
      refine (next_spec w cb (4 * i + 2) 5 _ _ (by omega) (by omega) (by omega) o6).mono ?_
      rintro e7 w7 ⟨x, hx0, hx1, rfl, o7, k7⟩
      have o8 := o7.re [2, 3, 0, 1]
      have K7 := kR.trans (k5.trans (k6.trans k7))
      have HI := Lib.hid hI
      clear hI oR o5 o6 o7 kR k5 k6 k7
      go_upto_block 2 with fail
      go_cut [60] (fun _ wc => RbMid w ha hb cb i wc)
      case first =>
        by_cases h0 : x = 0
        · subst h0
          obtain ⟨hj1, hj2⟩ := HI.out.join k wt
          have HJ := Lib.hid hj2
          have ja := sfqJoin_spec k wt o8
          have aA := joinR_aw A k wt
          have aB := joinR_aw B k wt
          rw [← aA] at ha0
          rw [← aB] at hb0
          have HJ1 := Lib.hid hj1
          clear hj1 hj2 aA aB
          go_wp2_with fail
          refine ja.mono ?_
          rintro e9 w9 ⟨rfl, o9, k9⟩
          have jb := sfqJoin_spec k wt (o9.re [1, 0, 2, 3])
          rw [HJ1.out] at jb
          clear ja
          generalize (joinR A k wt).1 = er at *
          go_wp2_with fail
          refine jb.mono ?_
          rintro e10 w10 ⟨rfl, o10, k10⟩
          go_wp2
          go_meet
          exact ⟨d, _, _, HJ.out, ha0, hb0, o10.swap, K7.trans (k9.trans k10)⟩
        · by_cases h1 : x = 1
          · subst h1
            obtain ⟨hj1, d', hj2⟩ := HI.out.leave k
            have HJ := Lib.hid hj2
            have ja := sfqLeave_spec k o8
            have aA := leaveR_aw A k
            have aB := leaveR_aw B k
            rw [← aA] at ha0
            rw [← aB] at hb0
            have HJ1 := Lib.hid hj1
            clear hj1 hj2 aA aB
            go_wp2_with fail
            refine ja.mono ?_
            rintro e9 w9 ⟨rfl, o9, k9⟩
            have jb := sfqLeave_spec k (o9.re [1, 0, 2, 3])
            rw [HJ1.out] at jb
            clear ja
            generalize (leaveR A k).1 = er at *
            go_wp2_with fail
            refine jb.mono ?_
            rintro e10 w10 ⟨rfl, o10, k10⟩
            go_wp2
            go_meet
            exact ⟨d', _, _, HJ.out, ha0, hb0, o10.swap, K7.trans (k9.trans k10)⟩
          · have hxb : (x == 0) = false := by simpa using h0
            have hxc : (x == 1) = false := by simpa using h1
            go_wp2
            go_meet
            exact ⟨d, A, B, HI.out, ha0, hb0, o8, K7⟩
      case rest =>
        obtain ⟨d2, A2, B2, hI2, ha2, hb2, o9, k9⟩ := hcut
        clear o8 K7 HI ha0 hb0
        have hsA := sfqSelect_spec o9
        go_wp2_with fail
        refine hsA.mono ?_
        rintro e10 w10 ⟨rfl, o10, k10⟩
        have hsB := sfqSelect_spec (o10.swap)
        rw [hI2.sel] at hsB
        have hAok := hI2.a.ok
        have hBok := hI2.b.ok
        have hch := fun n (h1 : 1 ≤ n) (h2 : n ≤ 4096) => hI2.charge (by omega) 1 1099511627776 (len := n) h1 h2
        have HCH := Lib.hid hch
        clear hsA hI2 hch
        generalize (selT A2.L).2 = sr at *
        generalize (selT A2.L).1 = sx at *
        go_wp2_with fail
        refine hsB.mono ?_
        rintro e11 w11 ⟨rfl, o11, k11⟩
        go_wp2_with fail
        refine (length_spec (W := w) (b := cb) (4 * i + 3) (by omega) (o11.re [2, 3, 0, 1])).mono ?_
        rintro e12 w12 ⟨n, hn1, hn2, rfl, o12, k12⟩
        obtain ⟨ea, SA, hA⟩ : ∃ e s, chargeR 1 A2 sx n = (e, s) := ⟨_, _, rfl⟩
        obtain ⟨eb, SB, hB⟩ : ∃ e s, chargeR 1099511627776 B2 sx n = (e, s) := ⟨_, _, rfl⟩
        have hh := HCH.out n hn1 hn2
        have aA := chargeR_aw 1 hAok sx n
        have aB := chargeR_aw 1099511627776 hBok sx n
        rw [hA] at aA hh
        rw [hB] at aB hh
        dsimp only at hh aA aB
        obtain ⟨rfl, d3, hc2⟩ := hh
        have qA : 0 ≤ SA.aw ∧ SA.aw ≤ ((i + 1 : Nat) : Int) * 1099511627776 := by push_cast; omega
        have qB : 0 ≤ SB.aw ∧ SB.aw ≤ ((i + 1 : Nat) : Int) * 1099511627776 := by push_cast; omega
        have cA := sfqCharge_as hA (by omega) (o12.re [3, 0, 1, 2])
        have HB := Lib.hid hB
        have HC2 := Lib.hid hc2
        clear hc2 aA aB HCH hsB hA hB
        go_wp2_with fail
        refine cA.mono ?_
        rintro e13 w13 ⟨rfl, o13, k13⟩
        have cB := sfqCharge_as HB.out (by omega) (o13.re [3, 0, 1, 2])
        clear cA
        go_wp2_with fail
        refine cB.mono ?_
        rintro e14 w14 ⟨rfl, o14, k14⟩
        go_wp2
        go_roundw
        case rel =>
          have hle : 4 * i + 3 + 1 ≤ 4 * (i + 1) := Nat.le_refl _
          have o14a := o14.up 2
          have o14b := Ch.upto o14a hle
          have o15 : Own w14 [SfqR ha 1 SA, SfqR hb 1099511627776 SB, Ch w cb (4 * (i + 1)), old w] := o14b.re [2, 1, 0, 3]
          have k15 : Calm w w14 := k9.trans (k10.trans (k11.trans (k12.trans (k13.trans k14))))
          refine ⟨i + 1, d3, SA, SB, ?_, ?_, ?_, ?_, ?_, ?_, ?_⟩
          · go_num
          · omega
          · exact HC2.out
          · exact qA
          · exact qB
          · exact o15
          · exact k15
        case measure => simp [intOf]; omega
    · go_wp2_with fail
      refine (awake13_spec oR).mono ?_
      rintro e9 w9 ⟨rfl, o9, k9⟩
      go_wp2
      go_ret
      exact ⟨rfl, (o9.up 3).below (kR.trans k9)⟩
end
end Go.Proofs.Ytnandakoigmknaa
