/- The laws of chapter 10: the example; FlowsAdmission. -/
import Derived.Test.YtladamlfbdbdgaaDoorFlF
import Derived.Test.YtladamlfbdbdgaaDoorGenW
namespace Go.Proofs.YtladamlfbdbdgaaDoor
open Go.RowKit
open SP
section
variable {W w w' : World} {R : List SP} {b : Nat}
def nmA : ByteArray := ⟨#[97]⟩
def tabA (c : Int) : Tab := ⟨c, 1, [⟨0, nmA, 1, 0⟩], []⟩
theorem nmA_ok : nameB nmA.data.toList = true := by kernel_rfl
theorem staA (c : Int) : staErr ⟨c, 1, [], []⟩ nmA 1 0 = 0 ∧ staId ⟨c, 1, [], []⟩ nmA 1 0 = 0 ∧ staT ⟨c, 1, [], []⟩ nmA 1 0 = tabA c := by
  have h : staErr ⟨c, 1, [], []⟩ nmA 1 0 = 0 := by
    unfold staErr
    rw [if_neg (by rw [nmA_ok]; unfold badW; simp)]
    unfold findT
    rw [if_pos nmA_ok]; rfl
  refine ⟨h, ?_, ?_⟩
  · unfold staId; rw [h]; rfl
  · unfold staT; rw [h]; rfl

set_option maxHeartbeats 1600000 in
set_option maxRecDepth 100000 in
theorem awake10_spec (hW : TabsW W) (o : Own w (old W :: R)) : Calls Tryd.prog 15 #[] w (Ret (.bool true) (old W :: R) w) := by
  have k0 := Tab.Ok.new 3 1 (by omega) (by omega)
  have k1 : (tabA 3).Ok := by have := k0.staT nmA 1 0; rw [(staA 3).2.2] at this; exact this
  have e1 : floErr (tabA 3) 0 2 = 0 := by decide
  have e2 : floId (tabA 3) 0 2 = 0 := by decide
  have e3 : floT (tabA 3) 0 2 = ⟨3, 1, [⟨0, nmA, 1, 0⟩], [(⟨0, 0, 2, 64, 262144, 1099511627776, 1099511627776⟩, true)]⟩ := rfl
  have k2 := k1.floT 0 2
  rw [e3] at k2
  have e4 : floErr ⟨3, 1, [⟨0, nmA, 1, 0⟩], [(⟨0, 0, 2, 64, 262144, 1099511627776, 1099511627776⟩, true)]⟩ 0 2 = 12 := by decide
  have e5 : floId ⟨3, 1, [⟨0, nmA, 1, 0⟩], [(⟨0, 0, 2, 64, 262144, 1099511627776, 1099511627776⟩, true)]⟩ 0 2 = 0 := by decide
  have e6 : floT ⟨3, 1, [⟨0, nmA, 1, 0⟩], [(⟨0, 0, 2, 64, 262144, 1099511627776, 1099511627776⟩, true)]⟩ 0 2 = ⟨3, 1, [⟨0, nmA, 1, 0⟩], [(⟨0, 0, 2, 64, 262144, 1099511627776, 1099511627776⟩, true)]⟩ := rfl
  have e7 : rmErr ⟨3, 1, [⟨0, nmA, 1, 0⟩], [(⟨0, 0, 2, 64, 262144, 1099511627776, 1099511627776⟩, true)]⟩ 0 = 0 := by decide
  have e8 : rmT ⟨3, 1, [⟨0, nmA, 1, 0⟩], [(⟨0, 0, 2, 64, 262144, 1099511627776, 1099511627776⟩, true)]⟩ 0 = ⟨3, 1, [⟨0, nmA, 1, 0⟩], [(⟨0, 0, 2, 64, 262144, 1099511627776, 1099511627776⟩, false)]⟩ := rfl
  go_enter Tryd.func15, Tryd.ntmps15
  go_wp2_with fail
  refine (flNew_spec 3 1 (by omega) (by omega) o).mono ?_
  rintro e w1 ⟨b, rfl, o1, q1⟩
  go_wp2_with fail
  have hs := addStation_spec (b := b) nmA 1 0 k0 (by decide) hW o1
  rw [(staA 3).1, (staA 3).2.1, (staA 3).2.2] at hs
  refine hs.mono ?_
  rintro e w2 ⟨rfl, o2, q2⟩
  clear hs
  go_wp2_with fail
  have hf := addFlow_spec 0 2 k1 o2
  rw [e1, e2, e3] at hf
  refine hf.mono ?_
  rintro e w3 ⟨rfl, o3, q3⟩
  clear hf
  go_wp2_with fail
  have hf := addFlow_spec 0 2 k2 o3
  rw [e4, e5, e6] at hf
  refine hf.mono ?_
  rintro e w4 ⟨rfl, o4, q4⟩
  clear hf
  go_wp2_with fail
  have hf := remove_spec 0 k2 o4
  rw [e7, e8] at hf
  refine hf.mono ?_
  rintro e w5 ⟨rfl, o5, q5⟩
  clear hf
  have hf := total_spec o5
  rw [show totF [((⟨0, 0, 2, 64, 262144, 1099511627776, 1099511627776⟩ : Flo), false)] = 0 from rfl] at hf
  go_wp2_with fail
  refine hf.mono ?_
  rintro e w6 ⟨rfl, rfl⟩
  clear hf
  go_wp2
  go_ret
  exact ⟨rfl, o5.drop, q1.trans (q2.trans (q3.trans (q4.trans q5)))⟩

def AdmRel (W : World) (cb b : Nat) (n : Int) (v : Value) (wr : World) : Prop :=
  ∃ (i : Nat) (T : Tab), v = .int .i64 (i : Int) ∧ i ≤ 30 ∧ T.Ok ∧ T.cap = n ∧ T.S.length = 1 ∧ T.F.length ≤ i ∧ Own wr [FlowP b T, Ch W cb (1 + 3 * i), old W] ∧ Calm W wr

set_option maxHeartbeats 3200000 in
set_option maxRecDepth 100000 in
theorem flowsAdmission_walk (a0 : Option Addr) (len0 cap0 : Nat) (z0 : List Int) (w : World) (w0 : IsRow .i64 w a0 len0 cap0 z0) (hW : TabsW w) :
    Calls Tryd.prog 3 #[.slice a0 len0 cap0] w fun e w' => e = .returned (.bool true) ∧ Below w.heap.size w w' := by
  have oW := Own.start w
  go_enter Tryd.func3, Tryd.ntmps3
  go_wp2_with fail
  refine (genNew_spec a0 len0 cap0 z0 w0 oW).mono ?_
  rintro e1 v1 ⟨cb, rfl, o1, k1⟩
  go_wp2_with fail
  refine (next_spec w cb 0 40 _ _ (by omega) (by omega) (by omega) o1).mono ?_
  rintro e2 v2 ⟨x, hx0, hx1, rfl, o2, k2⟩
  obtain ⟨n, hn⟩ : ∃ n, 1 + x = n := ⟨_, rfl⟩
  have hwr : IntKind.i64.wrap n = n := by rw [IntKind.wrap_i64]; omega
  have hn1 : 1 ≤ n ∧ n ≤ 40 := by omega
  have hk0 := Tab.Ok.new n 1 (by omega) (by omega)
  go_wp2_with fail
  refine (flNew_spec n 1 (by omega) (by omega) o2).mono ?_
  rintro e3 v3 ⟨b, rfl, o3, k3⟩
  have hs := addStation_spec (b := b) nmA 1 0 hk0 (by decide) hW (o3.re [0, 2, 1])
  rw [(staA n).1, (staA n).2.1, (staA n).2.2] at hs
  have hk1 : (tabA n).Ok := by have := hk0.staT nmA 1 0; rw [(staA n).2.2] at this; exact this
  clear hn hwr
  go_wp2_with fail
  refine hs.mono ?_
  rintro e4 v4 ⟨rfl, o4, k4⟩
  clear hs
  have hrel0 : AdmRel w cb b n (.int .i64 0) v4 := ⟨0, tabA n, rfl, by omega, hk1, rfl, rfl, by show 0 ≤ 0; omega, o4.re [0, 2, 1], k1.trans (k2.trans (k3.trans k4))⟩
  clear hk0 hk1 o1 o2 o3 o4 k1 k2 k3 k4
  go_wp2
  go_loopw [7] (fun v wr => AdmRel w cb b n v wr) (fun v _ => 30 - (intOf v).toNat)
  case atStart => exact hrel0
  case round =>
    clear hrel0
    obtain ⟨i, T, rfl, hi, hT, hcap, hS, hF, oR, kR⟩ := hrel
    by_cases hlt : i < 30
    · have htr := totF_range T.F hT.fwt
      have htc := hT.tot
      have ht1 := total_spec oR
      go_wp2_with fail
      refine ht1.mono ?_
      rintro e5 w5 ⟨rfl, rfl⟩
      clear ht1
      go_wp2_with fail
      refine (genWeight_spec (W := w) (b := cb) (1 + 3 * i) (by omega) (oR.re [1, 2, 0])).mono ?_
      rintro e6 w6 ⟨x, hx1, hx2, rfl, o6, k6⟩
      go_wp2_with fail
      refine (next_spec w cb (1 + 3 * i + 1) 3 _ _ (by omega) (by omega) (by omega) o6).mono ?_
      rintro e7 w7 ⟨y, hy0, hy1, rfl, o7, k7⟩
      have o8 := o7.re [2, 0, 1]
      have HC := Lib.hid hcap
      clear hcap
      have hwr : IntKind.i64.wrap (totF T.F + x) = totF T.F + x := by rw [IntKind.wrap_i64]; omega
      have hnn : decide (n < totF T.F) = false := decide_eq_false (by have := HC.out; omega)
      have hn0 : decide (totF T.F < 0) = false := decide_eq_false (by omega)
      by_cases hy : y ≤ 1
      · have hy' : y = 0 ∨ y = 1 := by omega
        clear hy hy0 hy1
        rcases hy' with rfl | rfl
        · skip
          have hE : floErr T 0 x = if n < totF T.F + x then 12 else 0 := by
            unfold floErr
            rw [if_neg (by omega), if_neg (by unfold badW; omega), if_neg (by omega), HC.out]
          have hfs := addFlow_spec 0 x hT o8
          by_cases hr : n < totF T.F + x
          · rw [if_pos hr] at hE
            obtain ⟨e2, e3⟩ := addFlow_err hE (by omega)
            rw [hE, e2, e3] at hfs
            have g1 : decide (n < totF T.F + x) = true := decide_eq_true hr
            clear hE e2 e3 hr
            go_wp2_with fail
            refine hfs.mono ?_
            rintro e8 w8 ⟨rfl, o9, k9⟩
            clear hfs
            have ht2 := total_spec o9
            go_wp2_with fail
            refine ht2.mono ?_
            rintro e9 w9 ⟨rfl, rfl⟩
            go_wp2_with fail
            refine ht2.mono ?_
            rintro e9 w9 ⟨rfl, rfl⟩
            go_wp2_with fail
            refine ht2.mono ?_
            rintro e9 w9 ⟨rfl, rfl⟩
            clear ht2
            go_wp2
            go_roundw
            case rel => exact ⟨i + 1, T, by go_num, by omega, hT, HC.out, hS, by omega, (Ch.upTo (M := 1 + 3 * (i + 1)) (by omega) (o9.re [1, 2, 0])).re [2, 0, 1], kR.trans (k6.trans (k7.trans k9))⟩
            case measure => simp [intOf]; omega
          · rw [if_neg hr] at hE
            have e2 : floId T 0 x = T.F.length := by unfold floId; rw [hE]; rfl
            have e3 : floT T 0 x = { T with F := T.F ++ [(newF T 0 x, true)] } := by unfold floT; rw [hE]; rfl
            have hT2 := hT.floT 0 x
            rw [hE, e2, e3] at hfs
            rw [e3] at hT2
            have htt : totF ({ T with F := T.F ++ [(newF T 0 x, true)] } : Tab).F = totF T.F + x := by show totF (T.F ++ [(newF T 0 x, true)]) = _; rw [totF_append]; simp [totF, newF]
            have g1 : decide (n < totF T.F + x) = false := decide_eq_false hr
            have g2 : decide (totF T.F + x < 0) = false := decide_eq_false (by omega)
            clear hE e2 e3 hr
            go_wp2_with fail
            refine hfs.mono ?_
            rintro e8 w8 ⟨rfl, o9, k9⟩
            clear hfs
            have ht2 := total_spec o9
            rw [htt] at ht2
            clear htt
            go_wp2_with fail
            refine ht2.mono ?_
            rintro e9 w9 ⟨rfl, rfl⟩
            go_wp2_with fail
            refine ht2.mono ?_
            rintro e9 w9 ⟨rfl, rfl⟩
            go_wp2_with fail
            refine ht2.mono ?_
            rintro e9 w9 ⟨rfl, rfl⟩
            clear ht2
            go_wp2
            go_roundw
            case rel => exact ⟨i + 1, _, by go_num, by omega, hT2, HC.out, hS, by simp; omega, (Ch.upTo (M := 1 + 3 * (i + 1)) (by omega) (o9.re [1, 2, 0])).re [2, 0, 1], kR.trans (k6.trans (k7.trans k9))⟩
            case measure => simp [intOf]; omega
        · skip
          have hE : floErr T 0 x = if n < totF T.F + x then 12 else 0 := by
            unfold floErr
            rw [if_neg (by omega), if_neg (by unfold badW; omega), if_neg (by omega), HC.out]
          have hfs := addFlow_spec 0 x hT o8
          by_cases hr : n < totF T.F + x
          · rw [if_pos hr] at hE
            obtain ⟨e2, e3⟩ := addFlow_err hE (by omega)
            rw [hE, e2, e3] at hfs
            have g1 : decide (n < totF T.F + x) = true := decide_eq_true hr
            clear hE e2 e3 hr
            go_wp2_with fail
            refine hfs.mono ?_
            rintro e8 w8 ⟨rfl, o9, k9⟩
            clear hfs
            have ht2 := total_spec o9
            go_wp2_with fail
            refine ht2.mono ?_
            rintro e9 w9 ⟨rfl, rfl⟩
            go_wp2_with fail
            refine ht2.mono ?_
            rintro e9 w9 ⟨rfl, rfl⟩
            go_wp2_with fail
            refine ht2.mono ?_
            rintro e9 w9 ⟨rfl, rfl⟩
            clear ht2
            go_wp2
            go_roundw
            case rel => exact ⟨i + 1, T, by go_num, by omega, hT, HC.out, hS, by omega, (Ch.upTo (M := 1 + 3 * (i + 1)) (by omega) (o9.re [1, 2, 0])).re [2, 0, 1], kR.trans (k6.trans (k7.trans k9))⟩
            case measure => simp [intOf]; omega
          · rw [if_neg hr] at hE
            have e2 : floId T 0 x = T.F.length := by unfold floId; rw [hE]; rfl
            have e3 : floT T 0 x = { T with F := T.F ++ [(newF T 0 x, true)] } := by unfold floT; rw [hE]; rfl
            have hT2 := hT.floT 0 x
            rw [hE, e2, e3] at hfs
            rw [e3] at hT2
            have htt : totF ({ T with F := T.F ++ [(newF T 0 x, true)] } : Tab).F = totF T.F + x := by show totF (T.F ++ [(newF T 0 x, true)]) = _; rw [totF_append]; simp [totF, newF]
            have g1 : decide (n < totF T.F + x) = false := decide_eq_false hr
            have g2 : decide (totF T.F + x < 0) = false := decide_eq_false (by omega)
            clear hE e2 e3 hr
            go_wp2_with fail
            refine hfs.mono ?_
            rintro e8 w8 ⟨rfl, o9, k9⟩
            clear hfs
            have ht2 := total_spec o9
            rw [htt] at ht2
            clear htt
            go_wp2_with fail
            refine ht2.mono ?_
            rintro e9 w9 ⟨rfl, rfl⟩
            go_wp2_with fail
            refine ht2.mono ?_
            rintro e9 w9 ⟨rfl, rfl⟩
            go_wp2_with fail
            refine ht2.mono ?_
            rintro e9 w9 ⟨rfl, rfl⟩
            clear ht2
            go_wp2
            go_roundw
            case rel => exact ⟨i + 1, _, by go_num, by omega, hT2, HC.out, hS, by simp; omega, (Ch.upTo (M := 1 + 3 * (i + 1)) (by omega) (o9.re [1, 2, 0])).re [2, 0, 1], kR.trans (k6.trans (k7.trans k9))⟩
            case measure => simp [intOf]; omega
      · have hy2 : y = 2 := by omega
        subst hy2
        clear hy
        have hwi : IntKind.i64.wrap ((i : Int) + 1) = (i : Int) + 1 := by rw [IntKind.wrap_i64]; omega
        go_wp2_with fail
        refine (next_spec w cb (1 + 3 * i + 1 + 1) ((i : Int) + 1) _ _ (by omega) (by omega) (by omega) o7).mono ?_
        rintro e8 w8 ⟨z, hz0, hz1, rfl, o9, k9⟩
        have hrs := remove_spec z hT (o9.re [2, 0, 1])
        have hT2 := hT.rmT z
        have hc2 : (rmT T z).cap = n := by rw [← HC.out]; unfold rmT; split <;> rfl
        have hS2 : (rmT T z).S.length = 1 := by rw [← hS]; unfold rmT; split <;> rfl
        have hF2 : (rmT T z).F.length = T.F.length := by unfold rmT; split <;> simp
        have ht2 := totF_range _ hT2.fwt
        have htc2 := hT2.tot
        generalize rmT T z = T2 at *
        generalize rmErr T z = er at *
        have HC2 := Lib.hid hc2
        have g1 : decide (n < totF T2.F) = false := decide_eq_false (by omega)
        have g2 : decide (totF T2.F < 0) = false := decide_eq_false (by omega)
        clear hc2
        go_wp2_with fail
        refine hrs.mono ?_
        rintro e10 w10 ⟨rfl, o10, k10⟩
        clear hrs
        have ht3 := total_spec o10
        go_wp2_with fail
        refine ht3.mono ?_
        rintro e9 w9 ⟨rfl, rfl⟩
        go_wp2_with fail
        refine ht3.mono ?_
        rintro e9 w9 ⟨rfl, rfl⟩
        clear ht3
        go_wp2
        go_roundw
        case rel => exact ⟨i + 1, T2, by go_num, by omega, hT2, HC2.out, hS2, by omega, (Ch.upTo (M := 1 + 3 * (i + 1)) (by omega) (o10.re [1, 2, 0])).re [2, 0, 1], kR.trans (k6.trans (k7.trans (k9.trans k10)))⟩
        case measure => simp [intOf]; omega
    · go_wp2_with fail
      refine (awake10_spec hW (oR.re [2, 0, 1])).mono ?_
      rintro e5 w5 ⟨rfl, o5, k5⟩
      go_wp2
      go_ret
      exact ⟨rfl, o5.below (kR.trans k5)⟩
end
end Go.Proofs.YtladamlfbdbdgaaDoor
