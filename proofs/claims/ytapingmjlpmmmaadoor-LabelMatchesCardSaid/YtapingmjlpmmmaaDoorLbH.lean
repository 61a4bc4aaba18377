/- LabelMatches: the walk. -/
import Derived.Test.YtapingmjlpmmmaaDoorLbG
import Derived.Laws.Rows
namespace Go.Proofs.YtapingmjlpmmmaaDoor
open Go.RowKit
open SP
section
variable {W w w' : World} {R : List SP}
/-- The strings of the law, by names. -/
theorem gd_strs (g : ByteArray) (hg : g ∈ gdList) : ∃ S0 S S2 S3 : ByteArray, (⟨#[120]⟩ : ByteArray) ++ g = S0 ∧ S0 ++ ⟨#[121]⟩ = S ∧ S ++ ⟨#[121]⟩ = S2 ∧ S ++ ⟨#[42]⟩ = S3 ∧
    g.size ≤ 24 ∧ S0.size ≤ 24 ∧ S.size ≤ 24 ∧ S2.size ≤ 25 ∧ S3.size ≤ 25 ∧ matchB S.data.toList S.data.toList = true ∧ matchB [42] S.data.toList = true ∧ matchB [120, 42] S.data.toList = true ∧ matchB [42, 89] S.data.toList = true ∧
    matchB [88, 42, 121] S.data.toList = true ∧ matchB [121, 42] S.data.toList = false ∧ matchB S2.data.toList S.data.toList = false ∧ matchB S3.data.toList S.data.toList = true := by
  obtain ⟨f0, f1, f2, f3, f4, f5, f6, f7, f8⟩ := gd_match g hg
  refine ⟨_, _, _, _, rfl, rfl, rfl, rfl, ?_, ?_, f0, ?_, ?_, f1, f2, f3, f4, f5, f6, f7, f8⟩
  all_goals
    have e1 : (⟨#[121]⟩ : ByteArray).size = 1 := rfl
    have e2 : (⟨#[120]⟩ : ByteArray).size = 1 := rfl
    have e3 : (⟨#[42]⟩ : ByteArray).size = 1 := rfl
    unfold gdS at f0
    simp only [ByteArray.size_append] at *
    omega
set_option maxHeartbeats 6400000 in
set_option maxRecDepth 100000 in
theorem labelMatches_walk (a0 : Option Addr) (len0 cap0 : Nat) (z0 : List Int) (w : World) (w0 : IsRow .i64 w a0 len0 cap0 z0) (hT : TabsW w) (hm : MaxW w) :
    Calls Tryd.prog 6 #[.slice a0 len0 cap0] w fun e w' => e = .returned (.bool true) ∧ Below w.heap.size w w' := by
  have oW := Own.start w
  have HM := Lib.hid fun (w1 : World) (R : List SP) (p s : ByteArray) (hp : p.size ≤ 2000000) (hs : s.size ≤ 2000000) (o1 : Own w1 (old w :: R)) => labMatch_spec p s hp hs hT hm o1
  have HA := Lib.hid fun (w1 : World) (R : List SP) (o1 : Own w1 (old w :: R)) => awake7_spec hT hm o1
  clear hT hm
  go_enter Tryd.func6, Tryd.ntmps6
  go_wp2_with fail
  refine (genNew_spec a0 len0 cap0 z0 (w0) oW).mono ?_
  rintro e1 v1 ⟨cb, rfl, o1, k1⟩
  go_wp2_with fail
  refine (genGood_spec 0 (by omega) o1).mono ?_
  rintro e2 v2 ⟨g, hg, rfl, o2, k2⟩
  have o3 := o2.swap
  obtain ⟨S0, S, S2, S3, q0, q1, q2, q3, z0, z1, z2, z3, z4, f1, f2, f3, f4, f5, f6, f7, f8⟩ := gd_strs g hg
  clear hg
  go_wp2_with fail
  refine (HM.out _ _ S S (by first | omega | decide) (by first | omega | decide) o3).mono ?_
  rintro e3 v3 ⟨rfl, o4, k3⟩
  rw [f1]
  go_wp2_with fail
  refine (HM.out _ _ ⟨#[42]⟩ S (by first | omega | decide) (by first | omega | decide) o4).mono ?_
  rintro e4 v4 ⟨rfl, o5, k4⟩
  rw [f2]
  go_wp2_with fail
  refine (HM.out _ _ ⟨#[120, 42]⟩ S (by first | omega | decide) (by first | omega | decide) o5).mono ?_
  rintro e5 v5 ⟨rfl, o6, k5⟩
  rw [f3]
  go_wp2_with fail
  refine (HM.out _ _ ⟨#[42, 89]⟩ S (by first | omega | decide) (by first | omega | decide) o6).mono ?_
  rintro e6 v6 ⟨rfl, o7, k6⟩
  rw [f4]
  go_wp2_with fail
  refine (HM.out _ _ ⟨#[88, 42, 121]⟩ S (by first | omega | decide) (by first | omega | decide) o7).mono ?_
  rintro e7 v7 ⟨rfl, o8, k7⟩
  rw [f5]
  go_wp2_with fail
  refine (HM.out _ _ ⟨#[121, 42]⟩ S (by first | omega | decide) (by first | omega | decide) o8).mono ?_
  rintro e8 v8 ⟨rfl, o9, k8⟩
  rw [f6]
  go_wp2_with fail
  refine (HM.out _ _ S2 S (by first | omega | decide) (by first | omega | decide) o9).mono ?_
  rintro e9 v9 ⟨rfl, o10, k9⟩
  rw [f7]
  go_wp2_with fail
  refine (HM.out _ _ S3 S (by first | omega | decide) (by first | omega | decide) o10).mono ?_
  rintro e10 v10 ⟨rfl, o11, k10⟩
  rw [f8]
  go_wp2_with fail
  refine (HA.out _ _ o11).mono ?_
  rintro e11 v11 ⟨rfl, o12, k11⟩
  go_wp2
  go_ret
  exact ⟨by simp, (o12).below (k1.trans (k2.trans (k3.trans (k4.trans (k5.trans (k6.trans (k7.trans (k8.trans (k9.trans (k10.trans k11))))))))))⟩
end
end Go.Proofs.YtapingmjlpmmmaaDoor
