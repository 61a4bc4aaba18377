/- LabelCompare and LabelMatch: the walks. -/
import Derived.Test.YtapingmjlpmmmaaDoorLbJ
import Derived.Deep.RegionHeld3
namespace Go.Proofs.YtapingmjlpmmmaaDoor
open Go.RowKit
open SP
section
variable {W w w' : World} {R : List SP}
set_option maxHeartbeats 12800000 in
set_option maxRecDepth 100000 in
theorem labelCompare_walk (a0 : Option Addr) (len0 cap0 : Nat) (z0 : List Int) (a b : ByteArray) (w : World) (w0 : IsRow .i64 w a0 len0 cap0 z0) (_ : a.size ≤ maxLen) (_ : b.size ≤ maxLen) (ha : a.size ≤ 1048576) (hb : b.size ≤ 1048576) (hT : TabsW w) (hm : MaxW w) :
    Calls Tryd.prog 7 #[.slice a0 len0 cap0, .string a, .string b] w fun e w' => e = .returned (.bool true) ∧ Below w.heap.size w w' := by
  have oW := Own.start w
  have HC := Lib.hid fun (w1 : World) (R : List SP) (p s : ByteArray) (hp : p.size ≤ 2000000) (hs : s.size ≤ 2000000) (o1 : Own w1 (old w :: R)) => labCompare_spec p s hp hs hT o1
  have HR := Lib.hid fun (w1 : World) (R : List SP) (p s : ByteArray) (hp : p.size ≤ 2000000) (hs : s.size ≤ 2000000) (o1 : Own w1 (old w :: R)) => compareR_spec p s hp hs o1
  have HA := Lib.hid fun (w1 : World) (R : List SP) (o1 : Own w1 (old w :: R)) => awake7_spec hT hm o1
  clear hT hm
  go_enter Tryd.func7, Tryd.ntmps7
  go_wp2_with fail
  refine (genNew_spec a0 len0 cap0 z0 (w0) oW).mono ?_
  rintro e1 v1 ⟨cb, rfl, o1, k1⟩
  have hT1 : DrRel w cb 2 6 (.int .i64 0) v1 := ⟨0, rfl, by omega, o1, k1⟩
  go_wp2
  go_loopw [8] (fun v wr => DrRel w cb 2 6 v wr) (fun v _ => 6 - ivN v)
  case atStart => exact hT1
  case round =>
    clear hT1 o1 k1 oW
    obtain ⟨i, rfl, hi, oR, kR⟩ := hrel
    by_cases hlt : i < 6
    · have dl : decide (i < 6) = true := decide_eq_true hlt
      go_wp2_with fail
      refine (genName_spec (2 * i) (by omega) oR).mono ?_
      rintro e2 w2 ⟨x, hx, rfl, o2, k2⟩
      go_wp2_with fail
      refine (genName_spec (2 * i + 1) (by omega) o2).mono ?_
      rintro e3 w3 ⟨y, hy, rfl, o3, k3⟩
      have cxy := HC.out _ _ x y (by omega) (by omega) o3.swap
      have rxy := Lib.hid fun (w1 : World) (R : List SP) (o1 : Own w1 (old w :: R)) => HR.out w1 R x y (by omega) (by omega) o1
      have cax := Lib.hid fun (w1 : World) (R : List SP) (o1 : Own w1 (old w :: R)) => HC.out w1 R a x (by omega) (by omega) o1
      have rax := Lib.hid fun (w1 : World) (R : List SP) (o1 : Own w1 (old w :: R)) => HR.out w1 R a x (by omega) (by omega) o1
      generalize cmpS x y = c1 at *
      generalize cmpS a x = c2 at *
      go_wp2_with fail
      refine cxy.mono ?_
      rintro e4 w4 ⟨rfl, o4, k4⟩
      clear cxy
      go_wp2_with fail
      refine (rxy.out _ _ o4).mono ?_
      rintro e5 w5 ⟨rfl, o5, k5⟩
      go_wp2_with fail
      refine (cax.out _ _ o5).mono ?_
      rintro e6 w6 ⟨rfl, o6, k6⟩
      go_wp2_with fail
      refine (rax.out _ _ o6).mono ?_
      rintro e7 w7 ⟨rfl, o7, k7⟩
      go_wp2
      go_roundw
      case rel => exact ⟨i + 1, by go_num, by omega, Ch.upTo (N := 2 * i + 1 + 1) (M := 2 * (i + 1)) (by omega) o7.swap, kR.trans (k2.trans (k3.trans (k4.trans (k5.trans (k6.trans k7)))))⟩
      case measure => simp [ivN]; omega
    · have dl : decide (i < 6) = false := decide_eq_false hlt
      by_cases ha1 : 100 < a.size
      · have db : decide (100 < a.size) = true := decide_eq_true ha1
        go_wp2
        go_ret
        exact ⟨rfl, oR.swap.below kR⟩
      · have da : decide (100 < a.size) = false := decide_eq_false ha1
        by_cases hb1 : 100 < b.size
        · have db : decide (100 < b.size) = true := decide_eq_true hb1
          go_wp2
          go_ret
          exact ⟨rfl, oR.swap.below kR⟩
        · have db : decide (100 < b.size) = false := decide_eq_false hb1
          have cab := HC.out _ _ a b (by omega) (by omega) oR.swap
          have rab := Lib.hid fun (w1 : World) (R : List SP) (o1 : Own w1 (old w :: R)) => HR.out w1 R a b (by omega) (by omega) o1
          generalize cmpS a b = c1 at *
          go_wp2_with fail
          refine cab.mono ?_
          rintro e4 w4 ⟨rfl, o4, k4⟩
          clear cab
          go_wp2_with fail
          refine (rab.out _ _ o4).mono ?_
          rintro e5 w5 ⟨rfl, o5, k5⟩
          go_wp2_with fail
          refine (HA.out _ _ o5).mono ?_
          rintro e6 w6 ⟨rfl, o6, k6⟩
          go_wp2
          go_ret
          exact ⟨rfl, o6.below (kR.trans (k4.trans (k5.trans k6)))⟩

/-- The patterns of the law. -/
def qList (x X1 X2 : ByteArray) : List ByteArray := [⟨#[42]⟩, ⟨#[97, 42]⟩, ⟨#[42, 110, 42]⟩, ⟨#[42, 42, 97]⟩, ⟨#[65, 42, 78]⟩, X1, X2, x, ⟨#[97, 42, 195, 132, 42, 98]⟩, ⟨#[]⟩, ⟨#[42, 195]⟩]
theorem qList_size {x X1 X2 : ByteArray} (h : x.size ≤ 25) (h1 : X1.size ≤ 26) (h2 : X2.size ≤ 26) : ∀ y ∈ qList x X1 X2, y.size ≤ 26 := by
  intro y hy
  unfold qList at hy
  simp only [List.mem_cons, List.not_mem_nil, or_false] at hy
  rcases hy with rfl | rfl | rfl | rfl | rfl | rfl | rfl | rfl | rfl | rfl | rfl <;> first | omega | exact Nat.le_trans (by decide) (Nat.le_refl 26) | decide
set_option maxHeartbeats 12800000 in
set_option maxRecDepth 100000 in
theorem labelMatch_walk (a0 : Option Addr) (len0 cap0 : Nat) (z0 : List Int) (p s : ByteArray) (w : World) (w0 : IsRow .i64 w a0 len0 cap0 z0) (hp : p.size ≤ maxLen) (hs : s.size ≤ maxLen) (hT : TabsW w) (hm : MaxW w) :
    Calls Tryd.prog 5 #[.slice a0 len0 cap0, .string p, .string s] w fun e w' => e = .returned (.bool true) ∧ Below w.heap.size w w' := by
  have oW := Own.start w
  have HM := Lib.hid fun (w1 : World) (R : List SP) (p s : ByteArray) (hp : p.size ≤ 2000000) (hs : s.size ≤ 2000000) (o1 : Own w1 (old w :: R)) => labMatch_spec p s hp hs hT hm o1
  have HR := Lib.hid fun (w1 : World) (R : List SP) (p s : ByteArray) (hp : p.size ≤ 2000000) (hs : s.size ≤ 2000000) (o1 : Own w1 (old w :: R)) => refMatch_spec p s hp hs o1
  have HA := Lib.hid fun (w1 : World) (R : List SP) (o1 : Own w1 (old w :: R)) => awake7_spec hT hm o1
  clear hT hm
  unfold maxLen at hp hs
  go_enter Tryd.func5, Tryd.ntmps5
  go_wp2_with fail
  refine (genNew_spec a0 len0 cap0 z0 (w0) oW).mono ?_
  rintro e1 v1 ⟨cb, rfl, o1, k1⟩
  have hT1 : DrRel w cb 2 6 (.int .i64 0) v1 := ⟨0, rfl, by omega, o1, k1⟩
  go_wp2
  go_loopw [8] (fun v wr => DrRel w cb 2 6 v wr) (fun v _ => 6 - ivN v)
  case atStart => exact hT1
  case round =>
    clear hT1 o1 k1 oW
    obtain ⟨i, rfl, hi, oR, kR⟩ := hrel
    by_cases hlt : i < 6
    · have dl : decide (i < 6) = true := decide_eq_true hlt
      go_wp2_with fail
      refine (genName_spec (2 * i) (by omega) oR).mono ?_
      rintro e2 w2 ⟨x, hx, rfl, o2, k2⟩
      obtain ⟨X1, q1⟩ : ∃ t, (⟨#[42]⟩ : ByteArray) ++ x = t := ⟨_, rfl⟩
      obtain ⟨X2, q2⟩ : ∃ t, x ++ (⟨#[42]⟩ : ByteArray) = t := ⟨_, rfl⟩
      obtain ⟨XX, q3⟩ : ∃ t, x ++ x = t := ⟨_, rfl⟩
      have z1 : X1.size ≤ 26 := by rw [← q1, ByteArray.size_append]; have : (⟨#[42]⟩ : ByteArray).size = 1 := rfl; omega
      have z2 : X2.size ≤ 26 := by rw [← q2, ByteArray.size_append]; have : (⟨#[42]⟩ : ByteArray).size = 1 := rfl; omega
      have z3 : XX.size ≤ 50 := by rw [← q3, ByteArray.size_append]; omega
      have o3 : Own (w2.alloc (.cells ((qList x X1 X2).map Value.string).toArray 9)) (cel w2.heap.size 9 ((qList x X1 X2).map Value.string) :: Ch w cb (2 * i + 1) :: old w :: []) := o2.alloc _
      have o4 := (o3.up 2).up 2
      go_wp2_with fail
      refine (next_spec w cb (2 * i + 1) 11 _ _ (by omega) (by omega) (by omega) o4).mono ?_
      rintro e3 w3 ⟨y, hy0, hy1, rfl, o5, k5⟩
      obtain ⟨j, rfl⟩ : ∃ j : Nat, y = (j : Int) := ⟨y.toNat, by omega⟩
      have hj : j < (qList x X1 X2).length := by show j < 11; omega
      have c := Own.cell (v := .string (qList x X1 X2)[j]) (o5.up 2) j (by rw [List.getElem?_map, List.getElem?_eq_getElem hj]; rfl)
      have hq : ((qList x X1 X2)[j]).size ≤ 26 := qList_size hx z1 z2 _ (List.getElem_mem hj)
      have o6 := (o5.up 2).drop
      have k6 : Calm w w3 := kR.trans (k2.trans ⟨k5.os, k5.tape, k5.output⟩)
      generalize (qList x X1 X2)[j] = q at *
      clear o3 o4 o5 k5 hj z1 z2 q1 q2 o2 oR k2 kR
      have m1 := HM.out _ _ q x (by omega) (by omega) o6.swap
      have m2 := Lib.hid fun (w1 : World) (R : List SP) (o1 : Own w1 (old w :: R)) => HR.out w1 R q x (by omega) (by omega) o1
      have m3 := Lib.hid fun (w1 : World) (R : List SP) (o1 : Own w1 (old w :: R)) => HM.out w1 R q XX (by omega) (by omega) o1
      have m4 := Lib.hid fun (w1 : World) (R : List SP) (o1 : Own w1 (old w :: R)) => HR.out w1 R q XX (by omega) (by omega) o1
      generalize matchB q.data.toList x.data.toList = b1 at *
      generalize matchB q.data.toList XX.data.toList = b2 at *
      go_wp2_with fail
      refine m1.mono ?_
      rintro e4 w4 ⟨rfl, o7, k7⟩
      clear m1
      go_wp2_with fail
      refine (m2.out _ _ o7).mono ?_
      rintro e5 w5 ⟨rfl, o8, k8⟩
      go_wp2_with fail
      refine (m3.out _ _ o8).mono ?_
      rintro e6 w6 ⟨rfl, o9, k9⟩
      go_wp2_with fail
      refine (m4.out _ _ o9).mono ?_
      rintro e7 w7 ⟨rfl, o10, k10⟩
      go_wp2
      go_roundw
      case rel => exact ⟨i + 1, by go_num, by omega, Ch.upTo (N := 2 * i + 1 + 1) (M := 2 * (i + 1)) (by omega) o10.swap, k6.trans (k7.trans (k8.trans (k9.trans k10)))⟩
      case measure => simp [ivN]; omega
    · have dl : decide (i < 6) = false := decide_eq_false hlt
      by_cases ha1 : 60 < p.size
      · have db : decide (60 < p.size) = true := decide_eq_true ha1
        go_wp2
        go_ret
        exact ⟨rfl, oR.swap.below kR⟩
      · have da : decide (60 < p.size) = false := decide_eq_false ha1
        by_cases hb1 : 60 < s.size
        · have db : decide (60 < s.size) = true := decide_eq_true hb1
          go_wp2
          go_ret
          exact ⟨rfl, oR.swap.below kR⟩
        · have db : decide (60 < s.size) = false := decide_eq_false hb1
          have cab := HM.out _ _ p s (by omega) (by omega) oR.swap
          have rab := Lib.hid fun (w1 : World) (R : List SP) (o1 : Own w1 (old w :: R)) => HR.out w1 R p s (by omega) (by omega) o1
          generalize matchB p.data.toList s.data.toList = c1 at *
          go_wp2_with fail
          refine cab.mono ?_
          rintro e4 w4 ⟨rfl, o4, k4⟩
          clear cab
          go_wp2_with fail
          refine (rab.out _ _ o4).mono ?_
          rintro e5 w5 ⟨rfl, o5, k5⟩
          go_wp2_with fail
          refine (HA.out _ _ o5).mono ?_
          rintro e6 w6 ⟨rfl, o6, k6⟩
          go_wp2
          go_ret
          exact ⟨rfl, o6.below (kR.trans (k4.trans (k5.trans k6)))⟩
end
end Go.Proofs.YtapingmjlpmmmaaDoor
