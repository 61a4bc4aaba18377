/- Chapter 14's Fair in the reference. -/
import Derived.Test.YtnandakoigmknaaSfqW
import Derived.Deep.RegionWith
namespace Go.Proofs.Ytnandakoigmknaa
open Go.RowKit
open SP
section
variable {W w w' : World} {R : List SP} {b : Nat} {reb : Int} {S : St}

theorem gw12_spec (wt : Int) (h1 : 1 ≤ wt) (h2 : wt ≤ 16) (w : World) : Calls Try.prog 79 #[.int .i64 wt] w (IsRet (.bool true) w) := by
  go_enter Try.func79, Try.ntmps79
  go_wp2
  go_ret
  exact ⟨rfl, rfl⟩

def smp (wt by_ mo : Int) : List Value := [.int .i64 wt, .int .i64 by_, .int .i64 mo]
structure SmpOk (wt by_ mo : Int) : Prop where
  w1 : 1 ≤ wt
  w2 : wt ≤ 16
  b1 : 0 ≤ by_
  b2 : by_ ≤ 2147483648
  m1 : 0 ≤ mo
  m2 : mo ≤ 4096

set_option maxHeartbeats 800000 in
theorem validSample_spec {wt by_ mo : Int} (h : SmpOk wt by_ mo) (o : Own w R) :
    Calls Try.prog 77 #[.agg #[.int .i64 wt, .int .i64 by_, .int .i64 mo]] w (Ret (.bool true) R w) := by
  obtain ⟨h1, h2, h3, h4, h5, h6⟩ := h
  have hg := fun w => gw12_spec wt h1 h2 w
  go_enter Try.func77, Try.ntmps77
  go_wp2_with (go_at_call 79; refine (hg _).mono ?_; rintro e w1 ⟨rfl, rfl⟩)
  go_ret
  exact ⟨rfl, o.more _, ⟨rfl, rfl, rfl⟩⟩

theorem unit1_q {wt : Int} : 720720 / wt = unit1 wt := by unfold unit1; rw [Int.tdiv_eq_ediv_of_nonneg (by decide)]

set_option maxHeartbeats 800000 in
theorem service_spec {wt by_ mo : Int} (h : SmpOk wt by_ mo) (o : Own w R) :
    Calls Try.prog 78 #[.agg #[.int .i64 wt, .int .i64 by_, .int .i64 mo]] w (Ret (.int .i64 (by_ * unit1 wt)) R w) := by
  obtain ⟨h1, h2, h3, h4, h5, h6⟩ := h
  have hu := unit1_range h1 h2
  have e1 : Int.tdiv 720720 wt = unit1 wt := rfl
  have e2 : 720720 / wt = unit1 wt := unit1_q
  have hm0 : 0 ≤ by_ * unit1 wt := Int.mul_nonneg h3 (by omega)
  have hm1 : by_ * unit1 wt ≤ 2147483648 * unit1 wt := Int.mul_le_mul_of_nonneg_right h4 (by omega)
  generalize unit1 wt = u at *
  have hm2 : by_ * u ≤ 1547734414786560 := by omega
  obtain ⟨p, hp⟩ : ∃ p, by_ * u = p := ⟨_, rfl⟩
  rw [hp] at hm0 hm1 hm2
  have hw : IntKind.i64.wrap p = p := by rw [IntKind.wrap_i64]; omega
  have hz : ¬ wt = 0 := by omega
  have hzb : (wt == 0) = false := by simpa using hz
  have HP := Lib.hid hp
  have ob := o.alloc (.cells #[.int .i64 wt, .int .i64 by_, .int .i64 mo] 67)
  go_enter Try.func78, Try.ntmps78
  go_wp2
  go_quiet (fail)
  go_wp2
  go_ret
  exact ⟨by rw [HP.out]; rfl, ob.drop.drewN _, ⟨rfl, rfl, rfl⟩⟩

set_option maxHeartbeats 3200000 in
theorem gap_spec {wa ba ma wb bb mb : Int} (ha : SmpOk wa ba ma) (hb : SmpOk wb bb mb) (o : Own w R) :
    Calls Try.prog 58 #[.agg #[.int .i64 wa, .int .i64 ba, .int .i64 ma], .agg #[.int .i64 wb, .int .i64 bb, .int .i64 mb]] w
      (Ret (.tuple #[.int .i64 (max (ba * unit1 wa - bb * unit1 wb) (bb * unit1 wb - ba * unit1 wa)), .int .i64 0]) R w) := by
  have oA := (o.alloc (.cells #[.int .i64 wa, .int .i64 ba, .int .i64 ma] 67)).alloc (.cells #[.int .i64 wb, .int .i64 bb, .int .i64 mb] 67)
  simp only [World.size_alloc] at oA
  have ua := unit1_range ha.w1 ha.w2
  have ub := unit1_range hb.w1 hb.w2
  have pa0 : 0 ≤ ba * unit1 wa := Int.mul_nonneg ha.b1 (by omega)
  have pb0 : 0 ≤ bb * unit1 wb := Int.mul_nonneg hb.b1 (by omega)
  have pa1 : ba * unit1 wa ≤ 2147483648 * unit1 wa := Int.mul_le_mul_of_nonneg_right ha.b2 (by omega)
  have pb1 : bb * unit1 wb ≤ 2147483648 * unit1 wb := Int.mul_le_mul_of_nonneg_right hb.b2 (by omega)
  have sA : ∀ (w' : World) (R : List SP), Own w' R → Calm w w' → Calls Try.prog 78 #[.agg #[.int .i64 wa, .int .i64 ba, .int .i64 ma]] w' (fun e w'' => e = .returned (.int .i64 (ba * unit1 wa)) ∧ Own w'' R ∧ Calm w w'') := fun w' R o k => (service_spec ha o).mono fun e w'' ⟨h1, h2, h3⟩ => ⟨h1, h2, k.trans h3⟩
  have sB : ∀ (w' : World) (R : List SP), Own w' R → Calm w w' → Calls Try.prog 78 #[.agg #[.int .i64 wb, .int .i64 bb, .int .i64 mb]] w' (fun e w'' => e = .returned (.int .i64 (bb * unit1 wb)) ∧ Own w'' R ∧ Calm w w'') := fun w' R o k => (service_spec hb o).mono fun e w'' ⟨h1, h2, h3⟩ => ⟨h1, h2, k.trans h3⟩
  generalize ba * unit1 wa = pa at *
  generalize bb * unit1 wb = pb at *
  have pa2 : pa ≤ 1547734414786560 := by omega
  have pb2 : pb ≤ 1547734414786560 := by omega
  have SA := Lib.hid sA
  have SB := Lib.hid sB
  clear sA sB ua ub pa1 pb1
  go_enter Try.func58, Try.ntmps58
  go_wp2_with fail
  refine (validSample_spec ha oA).mono ?_
  rintro e1 w1 ⟨rfl, o1, k1⟩
  have c0 := Own.cell (T := 67) (vs := smp wb bb mb) o1 0
  have c1 := Own.cell (T := 67) (vs := smp wb bb mb) o1 1
  have c2 := Own.cell (T := 67) (vs := smp wb bb mb) o1 2
  go_wp2_with fail
  refine (validSample_spec hb o1).mono ?_
  rintro e2 w2 ⟨rfl, o2, k2⟩
  clear c0 c1 c2
  have o2d := o2.drew
  have k2d : Calm w w2.drew := Calm.d1 (Calm.trans ⟨k1.os, k1.tape, k1.output⟩ k2)
  generalize hn : w.heap.size = n at *
  have c0 := Own.cell (T := 67) (vs := smp wb bb mb) o2 0
  have c1 := Own.cell (T := 67) (vs := smp wb bb mb) o2 1
  have c2 := Own.cell (T := 67) (vs := smp wb bb mb) o2 2
  have d0 := Own.cell (T := 67) (vs := smp wa ba ma) (o2.up 1) 0
  have d1 := Own.cell (T := 67) (vs := smp wa ba ma) (o2.up 1) 1
  have d2 := Own.cell (T := 67) (vs := smp wa ba ma) (o2.up 1) 2
  have hw3 : IntKind.i64.wrap (pa - pb) = pa - pb := by rw [IntKind.wrap_i64]; omega
  have hw4 : IntKind.i64.wrap (pb - pa) = pb - pa := by rw [IntKind.wrap_i64]; omega
  clear hn
  go_wp2
  go_region_held3 (fun w' => w'.cell? ⟨n, 0, none⟩ = some (.int .i64 wa) ∧ w'.cell? ⟨n, 1, none⟩ = some (.int .i64 ba) ∧ w'.cell? ⟨n, 2, none⟩ = some (.int .i64 ma) ∧
      w'.cell? ⟨n + 1, 0, none⟩ = some (.int .i64 wb) ∧ w'.cell? ⟨n + 1, 1, none⟩ = some (.int .i64 bb) ∧ w'.cell? ⟨n + 1, 2, none⟩ = some (.int .i64 mb)) (go_keep) (first
    | (go_at_call 78; (first | (with_reducible refine (SA.out _ _ (by assumption) (by assumption)).mono ?_) | (with_reducible refine (SB.out _ _ (by assumption) (by assumption)).mono ?_)); rintro e4 w4 ⟨rfl, o7, k7⟩; have q0 := Own.cell (T := 67) (vs := smp wb bb mb) o7 0; have q1 := Own.cell (T := 67) (vs := smp wb bb mb) o7 1; have q2 := Own.cell (T := 67) (vs := smp wb bb mb) o7 2; have q3 := Own.cell (T := 67) (vs := smp wa ba ma) (o7.up 1) 0; have q4 := Own.cell (T := 67) (vs := smp wa ba ma) (o7.up 1) 1; have q5 := Own.cell (T := 67) (vs := smp wa ba ma) (o7.up 1) 2))
  go_wp2
  go_ret2
  exact ⟨rfl, o7.drop.drop, k7⟩

set_option maxHeartbeats 3200000 in
theorem bound_spec {wa ba ma wb bb mb : Int} (ha : SmpOk wa ba ma) (hb : SmpOk wb bb mb) (o : Own w R) :
    Calls Try.prog 59 #[.agg #[.int .i64 wa, .int .i64 ba, .int .i64 ma], .agg #[.int .i64 wb, .int .i64 bb, .int .i64 mb]] w
      (Ret (.tuple #[.int .i64 (ma * unit1 wa + mb * unit1 wb), .int .i64 0]) R w) := by
  have oA := (o.alloc (.cells #[.int .i64 wa, .int .i64 ba, .int .i64 ma] 67)).alloc (.cells #[.int .i64 wb, .int .i64 bb, .int .i64 mb] 67)
  simp only [World.size_alloc] at oA
  have ua := unit1_range ha.w1 ha.w2
  have ub := unit1_range hb.w1 hb.w2
  have pa0 : 0 ≤ ma * unit1 wa := Int.mul_nonneg ha.m1 (by omega)
  have pb0 : 0 ≤ mb * unit1 wb := Int.mul_nonneg hb.m1 (by omega)
  have pa1 : ma * unit1 wa ≤ 4096 * unit1 wa := Int.mul_le_mul_of_nonneg_right ha.m2 (by omega)
  have pb1 : mb * unit1 wb ≤ 4096 * unit1 wb := Int.mul_le_mul_of_nonneg_right hb.m2 (by omega)
  have e1 : Int.tdiv 720720 wa = unit1 wa := rfl
  have e2 : 720720 / wa = unit1 wa := unit1_q
  have e3 : Int.tdiv 720720 wb = unit1 wb := rfl
  have e4 : 720720 / wb = unit1 wb := unit1_q
  have hza : ¬ wa = 0 := by have := ha.w1; omega
  have hzb : ¬ wb = 0 := by have := hb.w1; omega
  have hwa := ha.w1
  have hwb := hb.w1
  generalize unit1 wa = ua' at *
  generalize unit1 wb = ub' at *
  obtain ⟨pa, hpa⟩ : ∃ p, ma * ua' = p := ⟨_, rfl⟩
  obtain ⟨pb, hpb⟩ : ∃ p, mb * ub' = p := ⟨_, rfl⟩
  rw [hpa] at pa0 pa1
  rw [hpb] at pb0 pb1
  have hw1 : IntKind.i64.wrap pa = pa := by rw [IntKind.wrap_i64]; omega
  have hw2 : IntKind.i64.wrap pb = pb := by rw [IntKind.wrap_i64]; omega
  have hw3 : IntKind.i64.wrap (pa + pb) = pa + pb := by rw [IntKind.wrap_i64]; omega
  have HPA := Lib.hid hpa
  have HPB := Lib.hid hpb
  clear pa1 pb1
  go_enter Try.func59, Try.ntmps59
  go_wp2_with fail
  refine (validSample_spec ha oA).mono ?_
  rintro e5 w1 ⟨rfl, o1, k1⟩
  have c0 := Own.cell (T := 67) (vs := smp wb bb mb) o1 0
  have c1 := Own.cell (T := 67) (vs := smp wb bb mb) o1 1
  have c2 := Own.cell (T := 67) (vs := smp wb bb mb) o1 2
  go_wp2_with fail
  refine (validSample_spec hb o1).mono ?_
  rintro e6 w2 ⟨rfl, o2, k2⟩
  clear c0 c1 c2
  have c0 := Own.cell (T := 67) (vs := smp wb bb mb) o2 0
  have c2 := Own.cell (T := 67) (vs := smp wb bb mb) o2 2
  have d0 := Own.cell (T := 67) (vs := smp wa ba ma) (o2.up 1) 0
  have d2 := Own.cell (T := 67) (vs := smp wa ba ma) (o2.up 1) 2
  go_wp2
  go_quiet (fail)
  go_wp2
  go_ret2
  exact ⟨by rw [HPA.out, HPB.out]; rfl, o2.drop.drop.drewN _, by have := Calm.trans k1 k2; exact ⟨this.os, this.tape, this.output⟩⟩

set_option maxHeartbeats 3200000 in
theorem fair_spec {wa ba ma wb bb mb : Int} (ha : SmpOk wa ba ma) (hb : SmpOk wb bb mb)
    (hf : max (ba * unit1 wa - bb * unit1 wb) (bb * unit1 wb - ba * unit1 wa) ≤ ma * unit1 wa + mb * unit1 wb) (o : Own w R) :
    Calls Try.prog 37 #[.agg #[.int .i64 wa, .int .i64 ba, .int .i64 ma], .agg #[.int .i64 wb, .int .i64 bb, .int .i64 mb]] w (Ret (.bool true) R w) := by
  have oA := (o.alloc (.cells #[.int .i64 wa, .int .i64 ba, .int .i64 ma] 67)).alloc (.cells #[.int .i64 wb, .int .i64 bb, .int .i64 mb] 67)
  simp only [World.size_alloc] at oA
  have hg := gap_spec ha hb oA
  have hbd := fun (w : World) (R : List SP) (o : Own w R) => bound_spec ha hb o
  generalize max (ba * unit1 wa - bb * unit1 wb) (bb * unit1 wb - ba * unit1 wa) = p at *
  generalize ma * unit1 wa + mb * unit1 wb = q at *
  have HB := Lib.hid hbd
  clear hbd
  go_enter Try.func37, Try.ntmps37
  go_wp2_with fail
  refine hg.mono ?_
  rintro e5 w1 ⟨rfl, o1, k1⟩
  have c0 := Own.cell (T := 67) (vs := smp wb bb mb) o1 0
  have c1 := Own.cell (T := 67) (vs := smp wb bb mb) o1 1
  have c2 := Own.cell (T := 67) (vs := smp wb bb mb) o1 2
  have d0 := Own.cell (T := 67) (vs := smp wa ba ma) (o1.up 1) 0
  have d1 := Own.cell (T := 67) (vs := smp wa ba ma) (o1.up 1) 1
  have d2 := Own.cell (T := 67) (vs := smp wa ba ma) (o1.up 1) 2
  clear hg
  go_wp2_with fail
  refine (HB.out _ _ o1).mono ?_
  rintro e6 w2 ⟨rfl, o2, k2⟩
  go_wp2
  go_ret
  exact ⟨rfl, o2.drop.drop, by have := Calm.trans k1 k2; exact ⟨this.os, this.tape, this.output⟩⟩

end
end Go.Proofs.Ytnandakoigmknaa
