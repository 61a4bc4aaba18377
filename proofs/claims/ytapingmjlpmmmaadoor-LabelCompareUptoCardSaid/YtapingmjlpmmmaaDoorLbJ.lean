/- LabelRunes and LabelValid: the walks. -/
import Derived.Test.YtapingmjlpmmmaaDoorLbG
import Derived.Laws.Rows
import Derived.Laws.Runes
namespace Go.Proofs.YtapingmjlpmmmaaDoor
open Go.RowKit
open SP
section
variable {W w w' : World} {R : List SP}
theorem enc_size (r : Int) : 1 ≤ (Utf8.encode r).size ∧ (Utf8.encode r).size ≤ 4 := by
  unfold Utf8.encode
  dsimp only
  (repeat' split) <;> simp [ByteArray.size]
set_option maxHeartbeats 12800000 in
set_option maxRecDepth 100000 in
theorem labelRunes_walk (r : Int) (b : Int) (w : World) (_ : (Lit.int .i32 r).wf = true) (_ : (Lit.int .u8 b).wf = true) (hT : TabsW w) (hm : MaxW w) :
    Calls Tryd.prog 4 #[.int .i32 r, .int .u8 b] w fun e w' => e = .returned (.bool true) ∧ Below w.heap.size w w' := by
  have oW := Own.start w
  have HN := Lib.hid fun (w1 : World) (s : ByteArray) (hs : s.size ≤ 2000000) (o1 : Own w1 [old w]) => names_spec s hs hT o1
  have HA := Lib.hid fun (w1 : World) (o1 : Own w1 [old w]) => awake7_spec hT hm o1
  clear hT hm
  have hcv := conv_new w [b] rfl (n := 1) rfl 5
  simp only [List.map_cons, List.map_nil] at hcv
  obtain ⟨x, hx⟩ : ∃ x, Utf8.encode r = x := ⟨_, rfl⟩
  have zx := enc_size r
  rw [hx] at zx
  obtain ⟨s, hs⟩ : ∃ s, strOfNums [b] = s := ⟨_, rfl⟩
  have zs : s.size = 1 := by rw [← hs]; rfl
  rw [hs] at hcv
  obtain ⟨s1, q1⟩ : ∃ s, (⟨#[97]⟩ : ByteArray) ++ x = s := ⟨_, rfl⟩
  obtain ⟨s2, q2⟩ : ∃ s, x ++ (⟨#[65]⟩ : ByteArray) = s := ⟨_, rfl⟩
  obtain ⟨s3, q3⟩ : ∃ t, s ++ x = t := ⟨_, rfl⟩
  obtain ⟨s4, q4⟩ : ∃ t, x ++ s = t := ⟨_, rfl⟩
  obtain ⟨s5, q5⟩ : ∃ t, x.extract 0 (x.size - 1) = t := ⟨_, rfl⟩
  have z1 : s1.size ≤ 5 := by rw [← q1, ByteArray.size_append]; have : (⟨#[97]⟩ : ByteArray).size = 1 := rfl; omega
  have z2 : s2.size ≤ 5 := by rw [← q2, ByteArray.size_append]; have : (⟨#[65]⟩ : ByteArray).size = 1 := rfl; omega
  have z3 : s3.size ≤ 5 := by rw [← q3, ByteArray.size_append]; omega
  have z4 : s4.size ≤ 5 := by rw [← q4, ByteArray.size_append]; omega
  have z5 : s5.size ≤ 5 := by rw [← q5, ByteArray.size_extract]; omega
  have o1 : Own (w.alloc (.cells #[.int .u8 b] 5)) [old w] := (oW.alloc _).drop
  have k1 : Calm w (w.alloc (.cells #[.int .u8 b] 5)) := ⟨rfl, rfl, rfl⟩
  clear hs
  go_enter Tryd.func4, Tryd.ntmps4
  go_wp2_with fail
  refine (HN.out _ x (by omega) o1).mono ?_
  rintro e2 v2 ⟨rfl, o2, k2⟩
  go_wp2_with fail
  refine (HN.out _ s1 (by omega) o2).mono ?_
  rintro e3 v3 ⟨rfl, o3, k3⟩
  go_wp2_with fail
  refine (HN.out _ s2 (by omega) o3).mono ?_
  rintro e4 v4 ⟨rfl, o4, k4⟩
  go_wp2_with fail
  refine (HN.out _ s3 (by omega) o4).mono ?_
  rintro e5 v5 ⟨rfl, o5, k5⟩
  go_wp2_with fail
  refine (HN.out _ s4 (by omega) o5).mono ?_
  rintro e6 v6 ⟨rfl, o6, k6⟩
  go_wp2_with fail
  refine (HN.out _ s5 (by omega) o6).mono ?_
  rintro e7 v7 ⟨rfl, o7, k7⟩
  go_wp2_with fail
  refine (HA.out _ o7).mono ?_
  rintro e8 v8 ⟨rfl, o8, k8⟩
  go_wp2
  go_ret
  exact ⟨rfl, o8.below (k1.trans (k2.trans (k3.trans (k4.trans (k5.trans (k6.trans (k7.trans k8)))))))⟩

/-- A law's rounds that draw. -/
def DrRel (W : World) (cb m k : Nat) (v : Value) (wr : World) : Prop :=
  ∃ i : Nat, v = .int .i64 (i : Int) ∧ i ≤ k ∧ Own wr [Ch W cb (m * i), old W] ∧ Calm W wr
def ivN : Value → Nat
  | .int _ n => n.toNat
  | _ => 0
set_option maxHeartbeats 12800000 in
set_option maxRecDepth 100000 in
theorem labelValid_walk (a0 : Option Addr) (len0 cap0 : Nat) (z0 : List Int) (s : ByteArray) (w : World) (w0 : IsRow .i64 w a0 len0 cap0 z0) (_ : s.size ≤ maxLen) (hs : s.size ≤ 1048576) (hT : TabsW w) (hm : MaxW w) :
    Calls Tryd.prog 3 #[.slice a0 len0 cap0, .string s] w fun e w' => e = .returned (.bool true) ∧ Below w.heap.size w w' := by
  have oW := Own.start w
  have HN := Lib.hid fun (w1 : World) (R : List SP) (s : ByteArray) (hs : s.size ≤ 2000000) (o1 : Own w1 (old w :: R)) => names_spec s hs hT o1
  have HA := Lib.hid fun (w1 : World) (R : List SP) (o1 : Own w1 (old w :: R)) => awake7_spec hT hm o1
  clear hT hm
  go_enter Tryd.func3, Tryd.ntmps3
  go_wp2_with fail
  refine (genNew_spec a0 len0 cap0 z0 (w0) oW).mono ?_
  rintro e1 v1 ⟨cb, rfl, o1, k1⟩
  have hT1 : DrRel w cb 2 5 (.int .i64 0) v1 := ⟨0, rfl, by omega, o1, k1⟩
  go_wp2
  go_loopw [6] (fun v wr => DrRel w cb 2 5 v wr) (fun v _ => 5 - ivN v)
  case atStart => exact hT1
  case round =>
    clear hT1 o1 k1 oW
    obtain ⟨i, rfl, hi, oR, kR⟩ := hrel
    by_cases hlt : i < 5
    · have dl : decide (i < 5) = true := decide_eq_true hlt
      go_wp2_with fail
      refine (genName_spec (2 * i) (by omega) oR).mono ?_
      rintro e2 w2 ⟨x, hx, rfl, o2, k2⟩
      go_wp2_with fail
      refine (HN.out _ _ x (by omega) o2.swap).mono ?_
      rintro e3 w3 ⟨rfl, o3, k3⟩
      go_wp2_with fail
      refine (genName_spec (2 * i + 1) (by omega) o3.swap).mono ?_
      rintro e4 w4 ⟨y, hy, rfl, o4, k4⟩
      obtain ⟨xy, qxy⟩ : ∃ t, x ++ y = t := ⟨_, rfl⟩
      have zxy : xy.size ≤ 50 := by rw [← qxy, ByteArray.size_append]; omega
      obtain ⟨xs, qxs⟩ : ∃ t, x ++ s = t := ⟨_, rfl⟩
      have zxs : xs.size ≤ 1048601 := by rw [← qxs, ByteArray.size_append]; omega
      go_wp2_with fail
      refine (HN.out _ _ xy (by omega) o4.swap).mono ?_
      rintro e5 w5 ⟨rfl, o5, k5⟩
      go_wp2_with fail
      refine (HN.out _ _ xs (by omega) o5).mono ?_
      rintro e6 w6 ⟨rfl, o6, k6⟩
      go_wp2
      go_roundw
      case rel => exact ⟨i + 1, by go_num, by omega, Ch.upTo (N := 2 * i + 1 + 1) (M := 2 * (i + 1)) (by omega) o6.swap, kR.trans (k2.trans (k3.trans (k4.trans (k5.trans k6))))⟩
      case measure => simp [ivN]; omega
    · have dl : decide (i < 5) = false := decide_eq_false hlt
      by_cases hb : 200 < s.size
      · have db : decide (200 < s.size) = true := decide_eq_true hb
        go_wp2
        go_ret
        exact ⟨rfl, oR.swap.below kR⟩
      · have db : decide (200 < s.size) = false := decide_eq_false hb
        go_wp2_with fail
        refine (HN.out _ _ s (by omega) oR.swap).mono ?_
        rintro e3 w3 ⟨rfl, o3, k3⟩
        go_wp2_with fail
        refine (HA.out _ _ o3).mono ?_
        rintro e4 w4 ⟨rfl, o4, k4⟩
        go_wp2
        go_ret
        exact ⟨rfl, o4.below (kR.trans (k3.trans k4))⟩
end
end Go.Proofs.YtapingmjlpmmmaaDoor
