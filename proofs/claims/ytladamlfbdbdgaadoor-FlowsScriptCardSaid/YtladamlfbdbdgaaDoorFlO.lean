/- The laws of chapter 10: one call on a table and the reference (act). -/
import Derived.Test.YtladamlfbdbdgaaDoorFlI
import Derived.Test.YtladamlfbdbdgaaDoorFlJ
import Derived.Test.YtladamlfbdbdgaaDoorFlN
import Derived.Test.YtladamlfbdbdgaaDoorFlK
import Derived.Test.YtladamlfbdbdgaaDoorDraw
import Derived.Deep.DeepCutAuto
import Derived.Deep.CutBlock
namespace Go.Proofs.YtladamlfbdbdgaaDoor
open Go.RowKit
open SP
section
variable {W w w' : World} {R : List SP} {b rb cb : Nat} {T : Tab}
def ActP (b rb : Nat) (R : List SP) (w : World) (e : Ending) (w' : World) : Prop :=
  ∃ T' : Tab, T'.Ok ∧ e = .returned (.bool true) ∧ Own w' (FlowP b T' :: FlowR rb T' :: R) ∧ Calm w w'
def ActQ (W : World) (b rb cb M : Nat) (R : List SP) (w : World) (e : Ending) (w' : World) : Prop :=
  ∃ T' : Tab, T'.Ok ∧ e = .returned (.bool true) ∧ Own w' (FlowR rb T' :: FlowP b T' :: Ch W cb M :: old W :: R) ∧ Calm w w'
set_option maxHeartbeats 12800000 in
set_option maxRecDepth 100000 in
theorem act10_spec (M : Nat) (p q : Int) (hT : T.Ok) (hM : (M : Int) ≤ 800000000000) (hW : TabsW W) (o : Own w (FlowP b T :: FlowR rb T :: Ch W cb M :: old W :: R)) :
    Calls Tryd.prog 22 #[.pointer (some ⟨cb, 0, none⟩), .pointer (some ⟨b, 0, none⟩), .pointer (some ⟨rb, 0, none⟩), .int .i64 p, .int .i64 q] w (ActQ W b rb cb (M + 8) R w) := by
  go_enter Tryd.func22, Tryd.ntmps22
  go_wp2_with fail
  refine (next_spec W cb M 8 _ _ (by omega) (by omega) (by omega) (o.re [2, 3, 0, 1])).mono ?_
  rintro e1 w1 ⟨f0, hf0, hf1, rfl, o1, k1⟩
  have hw0 : IntKind.i64.wrap (f0 - 1) = f0 - 1 := by rw [IntKind.wrap_i64]; omega
  go_wp2_with fail
  refine (next_spec W cb (M + 1) 19 _ _ (by omega) (by omega) (by omega) o1).mono ?_
  rintro e2 w2 ⟨x0, hx0, hx1, rfl, o2, k2⟩
  have hw1 : IntKind.i64.wrap (x0 - 1) = x0 - 1 := by rw [IntKind.wrap_i64]; omega
  go_wp2_with fail
  refine (next_spec W cb (M + 1 + 1) 12 _ _ (by omega) (by omega) (by omega) o2).mono ?_
  rintro e3 w3 ⟨y, hy0, hy1, rfl, o4, k3⟩
  have k4 := k1.trans (k2.trans k3)
  clear o o1 o2 k1 k2 k3
  have o4 : Own w3 (Ch W cb (M + 3) :: old W :: FlowP b T :: FlowR rb T :: R) := o4
  go_upto_if 35 with fail
  go_cut [11, 12] (fun v1 v2 wc => ∃ f x : Int, v1 = .int .i64 f ∧ v2 = .int .i64 x ∧ Own wc (Ch W cb (M + 3) :: old W :: FlowP b T :: FlowR rb T :: R) ∧ Calm w wc)
  case first =>
    by_cases hy : y = 0
    · subst hy
      go_wp2
      go_meet
      exact ⟨_, _, rfl, rfl, o4, k4⟩
    · have hyb : (y == 0) = false := by simpa using hy
      clear hy hy0 hy1
      go_wp2
      go_meet
      exact ⟨_, _, rfl, rfl, o4, k4⟩
  case rest =>
  obtain ⟨f, x, rfl, rfl, o4, k4⟩ := hcut
  go_wp2_with fail
  refine (next_spec W cb (M + 3) 9 _ _ (by omega) (by omega) (by omega) o4).mono ?_
  rintro e5 w5 ⟨z, hz0, hz1, rfl, o5, k5⟩
  have K5 := k4.trans k5
  clear o4 k4 k5
  by_cases h01 : z ≤ 1
  · have h01b : z = 0 ∨ z = 1 := by omega
    clear h01 hz0 hz1
    rcases h01b with rfl | rfl
    · go_wp2_with fail
      refine (genName_spec (W := W) (b := cb) (M + 3 + 1) (by omega) o5).mono ?_
      rintro e6 w6 ⟨s, hs, rfl, o6, k6⟩
      go_wp2_with fail
      refine (next_spec W cb (M + 3 + 1 + 1) 4 _ _ (by omega) (by omega) (by omega) o6).mono ?_
      rintro e7 w7 ⟨rt, hr0, hr1, rfl, o7, k7⟩
      obtain ⟨rr, hrr⟩ : ∃ rr, IntKind.i64.wrap (rt - 1) = rr := ⟨_, rfl⟩
      have hT2 := hT.staT s x (rt - 1)
      have hrw : IntKind.i64.wrap (rt - 1) = rt - 1 := by rw [IntKind.wrap_i64]; omega
      clear hrr rr
      go_wp2_with fail
      refine (addStation_spec (b := b) s x (rt - 1) hT (by omega) hW (o7.re [2, 1, 0, 3])).mono ?_
      rintro e8 w8 ⟨rfl, o8, k8⟩
      go_wp2_with fail
      refine (addStationR_spec (r := rb) s x (rt - 1) hT (by omega) (o8.re [3, 0, 1, 2])).mono ?_
      rintro e9 w9 ⟨rfl, o9, k9⟩
      go_wp2
      go_ret
      exact ⟨_, hT2, by simp, (Ch.upTo (M := M + 8) (by omega) (o9.re [3])).re [1, 2, 0, 3], K5.trans (k6.trans (k7.trans (k8.trans k9)))⟩
    · go_wp2_with fail
      refine (genName_spec (W := W) (b := cb) (M + 3 + 1) (by omega) o5).mono ?_
      rintro e6 w6 ⟨s, hs, rfl, o6, k6⟩
      go_wp2_with fail
      refine (next_spec W cb (M + 3 + 1 + 1) 4 _ _ (by omega) (by omega) (by omega) o6).mono ?_
      rintro e7 w7 ⟨rt, hr0, hr1, rfl, o7, k7⟩
      obtain ⟨rr, hrr⟩ : ∃ rr, IntKind.i64.wrap (rt - 1) = rr := ⟨_, rfl⟩
      have hT2 := hT.staT s x (rt - 1)
      have hrw : IntKind.i64.wrap (rt - 1) = rt - 1 := by rw [IntKind.wrap_i64]; omega
      clear hrr rr
      go_wp2_with fail
      refine (addStation_spec (b := b) s x (rt - 1) hT (by omega) hW (o7.re [2, 1, 0, 3])).mono ?_
      rintro e8 w8 ⟨rfl, o8, k8⟩
      go_wp2_with fail
      refine (addStationR_spec (r := rb) s x (rt - 1) hT (by omega) (o8.re [3, 0, 1, 2])).mono ?_
      rintro e9 w9 ⟨rfl, o9, k9⟩
      go_wp2
      go_ret
      exact ⟨_, hT2, by simp, (Ch.upTo (M := M + 8) (by omega) (o9.re [3])).re [1, 2, 0, 3], K5.trans (k6.trans (k7.trans (k8.trans k9)))⟩
  have hb0 : (z == 0) = false := by rw [beq_eq_false_iff_ne]; omega
  have hb1 : (z == 1) = false := by rw [beq_eq_false_iff_ne]; omega
  by_cases h24 : z ≤ 4
  · have h24b : z = 2 ∨ z = 3 ∨ z = 4 := by omega
    clear h24 h01 hz0 hz1
    have hT2 := hT.floT f x
    rcases h24b with rfl | rfl | rfl
    · go_wp2_with fail
      refine (addFlow_spec (b := b) f x hT (o5.re [2, 3, 0, 1])).mono ?_
      rintro e8 w8 ⟨rfl, o8, k8⟩
      go_wp2_with fail
      refine (addFlowR_spec (r := rb) f x hT (o8.re [1, 0, 2, 3])).mono ?_
      rintro e9 w9 ⟨rfl, o9, k9⟩
      go_wp2
      go_ret
      exact ⟨_, hT2, by simp, (Ch.upTo (M := M + 8) (by omega) (o9.re [2])).re [1, 2, 0, 3], K5.trans (k8.trans k9)⟩
    · go_wp2_with fail
      refine (addFlow_spec (b := b) f x hT (o5.re [2, 3, 0, 1])).mono ?_
      rintro e8 w8 ⟨rfl, o8, k8⟩
      go_wp2_with fail
      refine (addFlowR_spec (r := rb) f x hT (o8.re [1, 0, 2, 3])).mono ?_
      rintro e9 w9 ⟨rfl, o9, k9⟩
      go_wp2
      go_ret
      exact ⟨_, hT2, by simp, (Ch.upTo (M := M + 8) (by omega) (o9.re [2])).re [1, 2, 0, 3], K5.trans (k8.trans k9)⟩
    · go_wp2_with fail
      refine (addFlow_spec (b := b) f x hT (o5.re [2, 3, 0, 1])).mono ?_
      rintro e8 w8 ⟨rfl, o8, k8⟩
      go_wp2_with fail
      refine (addFlowR_spec (r := rb) f x hT (o8.re [1, 0, 2, 3])).mono ?_
      rintro e9 w9 ⟨rfl, o9, k9⟩
      go_wp2
      go_ret
      exact ⟨_, hT2, by simp, (Ch.upTo (M := M + 8) (by omega) (o9.re [2])).re [1, 2, 0, 3], K5.trans (k8.trans k9)⟩
  have hb2 : (z == 2) = false := by rw [beq_eq_false_iff_ne]; omega
  have hb3 : (z == 3) = false := by rw [beq_eq_false_iff_ne]; omega
  have hb4 : (z == 4) = false := by rw [beq_eq_false_iff_ne]; omega
  by_cases h5 : z = 5
  · subst h5
    have hT2 := hT.wtT f x
    clear h24 h01 hz0 hz1
    go_wp2_with fail
    refine (setWeight_spec (b := b) f x hT (o5.re [2, 3, 0, 1])).mono ?_
    rintro e8 w8 ⟨rfl, o8, k8⟩
    go_wp2_with fail
    refine (setWeightR_spec (r := rb) f x hT (o8.re [1, 0, 2, 3])).mono ?_
    rintro e9 w9 ⟨rfl, o9, k9⟩
    go_wp2
    go_ret
    exact ⟨_, hT2, by simp, (Ch.upTo (M := M + 8) (by omega) (o9.re [2])).re [1, 2, 0, 3], K5.trans (k8.trans k9)⟩
  have hb5 : (z == 5) = false := by rw [beq_eq_false_iff_ne]; omega
  by_cases h6 : z = 6
  · subst h6
    clear h24 h01 hz0 hz1 h5
    go_upto_region 21 with fail
    go_cut [23, 24] (fun v1 v2 wc => ∃ g h : Int, v1 = .int .i64 g ∧ v2 = .int .i64 h ∧ Own wc (Ch W cb (M + 3 + 1 + 1 + 1) :: old W :: FlowP b T :: FlowR rb T :: R) ∧ Calm w wc)
    case first =>
      refine wp_region_draws (fun L v wc => Own wc (Ch W cb (M + 3 + 1 + dOne (L 2) + dOne (L 7)) :: old W :: Tb (L 0) (v 0) 3 [.int .i64 0, .int .i64 1, .int .i64 64, .int .i64 65] :: Tb (L 5) (v 5) 3 [.int .i64 0, .int .i64 1, .int .i64 262144, .int .i64 262145] :: FlowP b T :: FlowR rb T :: R) ∧ Calm w wc ∧
        TD L v cb 0 1 2 3 4 [.int .i64 0, .int .i64 1, .int .i64 64, .int .i64 65] ∧ TD L v cb 5 6 7 8 9 [.int .i64 0, .int .i64 1, .int .i64 262144, .int .i64 262145] ∧ (L 10 = true → L 4 = true ∧ v 10 = v 4) ∧ (L 11 = true → L 9 = true ∧ v 11 = v 9)) (by kernel_rfl) (by kernel_rfl) (by kernel_rfl) ?h0 ?step ?fin
      case h0 => exact ⟨((Tb.no (Tb.no o5)).re [2, 3, 0, 1]).same rfl, ⟨K5.os, K5.tape, K5.output⟩, TD.no, TD.no, fun h => (Bool.false_ne_true h).elim, fun h => (Bool.false_ne_true h).elim⟩
      case step =>
        refine ⟨DrawStep.mk rfl ?_, DrawStep.mk rfl ?_, DrawStep.mk rfl ?_, DrawStep.mk rfl ?_, DrawStep.mk rfl ?_, DrawStep.mk rfl ?_, DrawStep.mk rfl ?_, DrawStep.mk rfl ?_, DrawStep.mk rfl ?_, DrawStep.mk rfl ?_, DrawStep.mk rfl ?_, DrawStep.mk rfl ?_, trivial⟩
        all_goals intro L v a wc hL hd hA hI K' hK
        all_goals obtain ⟨oD, kD, t1, t2, f1, f2⟩ := hI
        all_goals simp [Region.binds] at hd
        · go_simp
          rw [hL] at oD
          exact hK.out _ _ ⟨(Tb.new (oD.up 2) _ (((oD.up 2).alloc (.cells #[Value.int .i64 0, .int .i64 1, .int .i64 64, .int .i64 65] 3)))).re [1, 2, 0, 3], ⟨kD.os, kD.tape, kD.output⟩, t1.other _ hL (by decide), t2.other _ hL (by decide), f1, f2⟩
        · have c0 := hA.base 0 (by rfl)
          simp only [List.getElem?_toArray, List.getElem?_cons_zero, Option.getD_some] at c0
          go_simp
          exact hK.out _ _ ⟨oD, kD, t1.doMove hL (by decide), t2.other _ hL (by decide), f1, f2⟩
        · have c0 := (hA.get 1 hd).trans (t1.move hd)
          go_simp
          rw [hL] at oD
          have b7 := dOne_le (L 7)
          refine (next_spec W cb _ 4 _ _ (by omega) (by omega) (by rw [dOne_no]; omega) oD).mono ?_
          rintro e6 w6 ⟨z, hz0, hz1, rfl, o6, k6⟩
          obtain ⟨j, rfl⟩ : ∃ j : Nat, z = (j : Int) := ⟨z.toNat, by omega⟩
          refine hK.out _ _ ⟨Ch.upTo (by show _ ≤ M + 3 + 1 + dOne true + dOne (L 7); rw [dOne_no, dOne_yes]; omega) o6, kD.trans k6, t1.doCall hL (by decide) (show j < 4 by omega), t2.other _ hL (by decide), f1, f2⟩
        · obtain ⟨j, hj, hv⟩ := t1.call hd.2
          rw [hd.1] at oD
          have c0 := hA.get 0 hd.1
          have c2 := (hA.get 2 hd.2).trans hv
          obtain ⟨g, hg⟩ := Tb.val (oD.up 2)
          rw [hg] at c0
          have hj' : (j : Int) < 4 := by have h4 : j < 4 := hj; omega
          go_simp
          exact hK.out _ _ ⟨by rw [← hd.1] at oD; exact oD, kD, t1.doAddr hL (by decide) hd.1 hj hg, t2.other _ hL (by decide), f1, f2⟩
        · obtain ⟨h0, g, j, hj, h1, h2⟩ := t1.addr hd
          rw [h0, h1] at oD
          have c3 := (hA.get 3 hd).trans h2
          have cc := Tb.at (oD.up 2) hj
          have hx : ([.int .i64 0, .int .i64 1, .int .i64 64, .int .i64 65] : List Value)[j] ∈ ([.int .i64 0, .int .i64 1, .int .i64 64, .int .i64 65] : List Value) := List.getElem_mem hj
          obtain ⟨x, hx0⟩ := tblInt [0, 1, 64, 65] hx
          generalize ([.int .i64 0, .int .i64 1, .int .i64 64, .int .i64 65] : List Value)[j] = y at *
          subst hx0
          go_simp
          exact hK.out _ _ ⟨by rw [← h0, ← h1] at oD; exact oD, kD, t1.doLoad hL (by decide) hx, t2.other _ hL (by decide), fun h => (by rw [hL] at f1; cases (f1 h).1), f2⟩
        · go_simp
          rw [hL] at oD
          exact hK.out _ _ ⟨(Tb.new (oD.up 3) _ (((oD.up 3).alloc (.cells #[Value.int .i64 0, .int .i64 1, .int .i64 262144, .int .i64 262145] 3)))).re [1, 2, 3, 0], ⟨kD.os, kD.tape, kD.output⟩, t1.other _ hL (by decide), t2.other _ hL (by decide), f1, f2⟩
        · have c0 := hA.base 0 (by rfl)
          simp only [List.getElem?_toArray, List.getElem?_cons_zero, Option.getD_some] at c0
          go_simp
          exact hK.out _ _ ⟨oD, kD, t1.other _ hL (by decide), t2.doMove hL (by decide), f1, f2⟩
        · have c0 := (hA.get 6 hd.1).trans (t2.move hd.1)
          go_simp
          rw [hL] at oD
          have b2 := dOne_le (L 2)
          refine (next_spec W cb _ 4 _ _ (by omega) (by omega) (by rw [dOne_no]; omega) oD).mono ?_
          rintro e6 w6 ⟨z, hz0, hz1, rfl, o6, k6⟩
          obtain ⟨j, rfl⟩ : ∃ j : Nat, z = (j : Int) := ⟨z.toNat, by omega⟩
          refine hK.out _ _ ⟨Ch.upTo (by show _ ≤ M + 3 + 1 + dOne (L 2) + dOne true; rw [dOne_no, dOne_yes]; omega) o6, kD.trans k6, t1.other _ hL (by decide), t2.doCall hL (by decide) (show j < 4 by omega), f1, f2⟩
        · obtain ⟨j, hj, hv⟩ := t2.call hd.2
          rw [hd.1] at oD
          have c0 := hA.get 5 hd.1
          have c2 := (hA.get 7 hd.2).trans hv
          obtain ⟨g, hg⟩ := Tb.val (oD.up 3)
          rw [hg] at c0
          have hj' : (j : Int) < 4 := by have h4 : j < 4 := hj; omega
          go_simp
          exact hK.out _ _ ⟨by rw [← hd.1] at oD; exact oD, kD, t1.other _ hL (by decide), t2.doAddr hL (by decide) hd.1 hj hg, f1, f2⟩
        · obtain ⟨h0, g, j, hj, h1, h2⟩ := t2.addr hd
          rw [h0, h1] at oD
          have c3 := (hA.get 8 hd).trans h2
          have cc := Tb.at (oD.up 3) hj
          have hx : ([.int .i64 0, .int .i64 1, .int .i64 262144, .int .i64 262145] : List Value)[j] ∈ ([.int .i64 0, .int .i64 1, .int .i64 262144, .int .i64 262145] : List Value) := List.getElem_mem hj
          obtain ⟨x, hx0⟩ := tblInt [0, 1, 262144, 262145] hx
          generalize ([.int .i64 0, .int .i64 1, .int .i64 262144, .int .i64 262145] : List Value)[j] = y at *
          subst hx0
          go_simp
          exact hK.out _ _ ⟨by rw [← h0, ← h1] at oD; exact oD, kD, t1.other _ hL (by decide), t2.doLoad hL (by decide) hx, f1, fun h => (by rw [hL] at f2; cases (f2 h).1)⟩
        · have c4 := hA.get 4 hd.1
          go_simp
          exact hK.out _ _ ⟨oD, kD, t1.other _ hL (by decide), t2.other _ hL (by decide), fun _ => ⟨hd.1, rfl⟩, f2⟩
        · have c4 := hA.get 9 hd.1
          go_simp
          exact hK.out _ _ ⟨oD, kD, t1.other _ hL (by decide), t2.other _ hL (by decide), f1, fun _ => ⟨hd.1, rfl⟩⟩
      case fin =>
        rintro L v wc hall ⟨oD, kD, t1, t2, f1, f2⟩
        have e1 := (f1 (hall 10 (by decide))).2
        have e2 := (f2 (hall 11 (by decide))).2
        obtain ⟨g, hg⟩ := tblInt [0, 1, 64, 65] (t1.load (hall 4 (by decide)))
        obtain ⟨h, hh⟩ := tblInt [0, 1, 262144, 262145] (t2.load (hall 9 (by decide)))
        rw [hall 2 (by decide), hall 7 (by decide)] at oD
        rw [hg] at e1
        rw [hh] at e2
        clear t1 t2 f1 f2 hall
        simp only [putAll, Act.put, List.setIfInBounds_toArray, List.set_cons_zero, List.set_cons_succ]
        go_wp2
        go_meet
        exact ⟨g, h, e1, e2, (oD.re [2, 3]).drop.drop, kD⟩
    case rest =>
      obtain ⟨g, h, rfl, rfl, o6, k6⟩ := hcut
      have hT2 := hT.capT f g h
      go_wp2_with fail
      refine (setCaps_spec (b := b) f g h hT (o6.re [2, 3, 0, 1])).mono ?_
      rintro e8 w8 ⟨rfl, o8, k8⟩
      go_wp2_with fail
      refine (setCapsR_spec (r := rb) f g h hT (o8.re [1, 0, 2, 3])).mono ?_
      rintro e9 w9 ⟨rfl, o9, k9⟩
      go_wp2
      go_ret
      exact ⟨_, hT2, by simp, (Ch.upTo (M := M + 8) (by omega) (o9.re [2])).re [1, 2, 0, 3], k6.trans (k8.trans k9)⟩
  have hb6 : (z == 6) = false := by rw [beq_eq_false_iff_ne]; omega
  by_cases h7 : z = 7
  · subst h7
    clear h24 h01 hz0 hz1 h5 h6
    go_upto_region 24 with fail
    go_cut [25, 26] (fun v1 v2 wc => ∃ g h : Int, v1 = .int .i64 g ∧ v2 = .int .i64 h ∧ Own wc (Ch W cb (M + 3 + 1 + 1 + 1) :: old W :: FlowP b T :: FlowR rb T :: R) ∧ Calm w wc)
    case first =>
      refine wp_region_draws (fun L v wc => Own wc (Ch W cb (M + 3 + 1 + dOne (L 2) + dOne (L 7)) :: old W :: Tb (L 0) (v 0) 2 [.int .i64 0, .int .i64 1, .int .i64 1099511627776, .int .i64 1099511627777] :: Tb (L 5) (v 5) 2 [.int .i64 (-1), .int .i64 0, .int .i64 5, .int .i64 1099511627776] :: FlowP b T :: FlowR rb T :: R) ∧ Calm w wc ∧
        TD L v cb 0 1 2 3 4 [.int .i64 0, .int .i64 1, .int .i64 1099511627776, .int .i64 1099511627777] ∧ TD L v cb 5 6 7 8 9 [.int .i64 (-1), .int .i64 0, .int .i64 5, .int .i64 1099511627776] ∧ (L 10 = true → L 4 = true ∧ v 10 = v 4) ∧ (L 11 = true → L 9 = true ∧ v 11 = v 9)) (by kernel_rfl) (by kernel_rfl) (by kernel_rfl) ?h0 ?step ?fin
      case h0 => exact ⟨((Tb.no (Tb.no o5)).re [2, 3, 0, 1]).same rfl, ⟨K5.os, K5.tape, K5.output⟩, TD.no, TD.no, fun h => (Bool.false_ne_true h).elim, fun h => (Bool.false_ne_true h).elim⟩
      case step =>
        refine ⟨DrawStep.mk rfl ?_, DrawStep.mk rfl ?_, DrawStep.mk rfl ?_, DrawStep.mk rfl ?_, DrawStep.mk rfl ?_, DrawStep.mk rfl ?_, DrawStep.mk rfl ?_, DrawStep.mk rfl ?_, DrawStep.mk rfl ?_, DrawStep.mk rfl ?_, DrawStep.mk rfl ?_, DrawStep.mk rfl ?_, trivial⟩
        all_goals intro L v a wc hL hd hA hI K' hK
        all_goals obtain ⟨oD, kD, t1, t2, f1, f2⟩ := hI
        all_goals simp [Region.binds] at hd
        · go_simp
          rw [hL] at oD
          exact hK.out _ _ ⟨(Tb.new (oD.up 2) _ (((oD.up 2).alloc (.cells #[Value.int .i64 0, .int .i64 1, .int .i64 1099511627776, .int .i64 1099511627777] 2)))).re [1, 2, 0, 3], ⟨kD.os, kD.tape, kD.output⟩, t1.other _ hL (by decide), t2.other _ hL (by decide), f1, f2⟩
        · have c0 := hA.base 0 (by rfl)
          simp only [List.getElem?_toArray, List.getElem?_cons_zero, Option.getD_some] at c0
          go_simp
          exact hK.out _ _ ⟨oD, kD, t1.doMove hL (by decide), t2.other _ hL (by decide), f1, f2⟩
        · have c0 := (hA.get 1 hd).trans (t1.move hd)
          go_simp
          rw [hL] at oD
          have b7 := dOne_le (L 7)
          refine (next_spec W cb _ 4 _ _ (by omega) (by omega) (by rw [dOne_no]; omega) oD).mono ?_
          rintro e6 w6 ⟨z, hz0, hz1, rfl, o6, k6⟩
          obtain ⟨j, rfl⟩ : ∃ j : Nat, z = (j : Int) := ⟨z.toNat, by omega⟩
          refine hK.out _ _ ⟨Ch.upTo (by show _ ≤ M + 3 + 1 + dOne true + dOne (L 7); rw [dOne_no, dOne_yes]; omega) o6, kD.trans k6, t1.doCall hL (by decide) (show j < 4 by omega), t2.other _ hL (by decide), f1, f2⟩
        · obtain ⟨j, hj, hv⟩ := t1.call hd.2
          rw [hd.1] at oD
          have c0 := hA.get 0 hd.1
          have c2 := (hA.get 2 hd.2).trans hv
          obtain ⟨g, hg⟩ := Tb.val (oD.up 2)
          rw [hg] at c0
          have hj' : (j : Int) < 4 := by have h4 : j < 4 := hj; omega
          go_simp
          exact hK.out _ _ ⟨by rw [← hd.1] at oD; exact oD, kD, t1.doAddr hL (by decide) hd.1 hj hg, t2.other _ hL (by decide), f1, f2⟩
        · obtain ⟨h0, g, j, hj, h1, h2⟩ := t1.addr hd
          rw [h0, h1] at oD
          have c3 := (hA.get 3 hd).trans h2
          have cc := Tb.at (oD.up 2) hj
          have hx : ([.int .i64 0, .int .i64 1, .int .i64 1099511627776, .int .i64 1099511627777] : List Value)[j] ∈ ([.int .i64 0, .int .i64 1, .int .i64 1099511627776, .int .i64 1099511627777] : List Value) := List.getElem_mem hj
          obtain ⟨x, hx0⟩ := tblInt [0, 1, 1099511627776, 1099511627777] hx
          generalize ([.int .i64 0, .int .i64 1, .int .i64 1099511627776, .int .i64 1099511627777] : List Value)[j] = y at *
          subst hx0
          go_simp
          exact hK.out _ _ ⟨by rw [← h0, ← h1] at oD; exact oD, kD, t1.doLoad hL (by decide) hx, t2.other _ hL (by decide), fun h => (by rw [hL] at f1; cases (f1 h).1), f2⟩
        · go_simp
          rw [hL] at oD
          exact hK.out _ _ ⟨(Tb.new (oD.up 3) _ (((oD.up 3).alloc (.cells #[Value.int .i64 (-1), .int .i64 0, .int .i64 5, .int .i64 1099511627776] 2)))).re [1, 2, 3, 0], ⟨kD.os, kD.tape, kD.output⟩, t1.other _ hL (by decide), t2.other _ hL (by decide), f1, f2⟩
        · have c0 := hA.base 0 (by rfl)
          simp only [List.getElem?_toArray, List.getElem?_cons_zero, Option.getD_some] at c0
          go_simp
          exact hK.out _ _ ⟨oD, kD, t1.other _ hL (by decide), t2.doMove hL (by decide), f1, f2⟩
        · have c0 := (hA.get 6 hd.1).trans (t2.move hd.1)
          go_simp
          rw [hL] at oD
          have b2 := dOne_le (L 2)
          refine (next_spec W cb _ 4 _ _ (by omega) (by omega) (by rw [dOne_no]; omega) oD).mono ?_
          rintro e6 w6 ⟨z, hz0, hz1, rfl, o6, k6⟩
          obtain ⟨j, rfl⟩ : ∃ j : Nat, z = (j : Int) := ⟨z.toNat, by omega⟩
          refine hK.out _ _ ⟨Ch.upTo (by show _ ≤ M + 3 + 1 + dOne (L 2) + dOne true; rw [dOne_no, dOne_yes]; omega) o6, kD.trans k6, t1.other _ hL (by decide), t2.doCall hL (by decide) (show j < 4 by omega), f1, f2⟩
        · obtain ⟨j, hj, hv⟩ := t2.call hd.2
          rw [hd.1] at oD
          have c0 := hA.get 5 hd.1
          have c2 := (hA.get 7 hd.2).trans hv
          obtain ⟨g, hg⟩ := Tb.val (oD.up 3)
          rw [hg] at c0
          have hj' : (j : Int) < 4 := by have h4 : j < 4 := hj; omega
          go_simp
          exact hK.out _ _ ⟨by rw [← hd.1] at oD; exact oD, kD, t1.other _ hL (by decide), t2.doAddr hL (by decide) hd.1 hj hg, f1, f2⟩
        · obtain ⟨h0, g, j, hj, h1, h2⟩ := t2.addr hd
          rw [h0, h1] at oD
          have c3 := (hA.get 8 hd).trans h2
          have cc := Tb.at (oD.up 3) hj
          have hx : ([.int .i64 (-1), .int .i64 0, .int .i64 5, .int .i64 1099511627776] : List Value)[j] ∈ ([.int .i64 (-1), .int .i64 0, .int .i64 5, .int .i64 1099511627776] : List Value) := List.getElem_mem hj
          obtain ⟨x, hx0⟩ := tblInt [(-1), 0, 5, 1099511627776] hx
          generalize ([.int .i64 (-1), .int .i64 0, .int .i64 5, .int .i64 1099511627776] : List Value)[j] = y at *
          subst hx0
          go_simp
          exact hK.out _ _ ⟨by rw [← h0, ← h1] at oD; exact oD, kD, t1.other _ hL (by decide), t2.doLoad hL (by decide) hx, f1, fun h => (by rw [hL] at f2; cases (f2 h).1)⟩
        · have c4 := hA.get 4 hd.1
          go_simp
          exact hK.out _ _ ⟨oD, kD, t1.other _ hL (by decide), t2.other _ hL (by decide), fun _ => ⟨hd.1, rfl⟩, f2⟩
        · have c4 := hA.get 9 hd.1
          go_simp
          exact hK.out _ _ ⟨oD, kD, t1.other _ hL (by decide), t2.other _ hL (by decide), f1, fun _ => ⟨hd.1, rfl⟩⟩
      case fin =>
        rintro L v wc hall ⟨oD, kD, t1, t2, f1, f2⟩
        have e1 := (f1 (hall 10 (by decide))).2
        have e2 := (f2 (hall 11 (by decide))).2
        obtain ⟨g, hg⟩ := tblInt [0, 1, 1099511627776, 1099511627777] (t1.load (hall 4 (by decide)))
        obtain ⟨h, hh⟩ := tblInt [(-1), 0, 5, 1099511627776] (t2.load (hall 9 (by decide)))
        rw [hall 2 (by decide), hall 7 (by decide)] at oD
        rw [hg] at e1
        rw [hh] at e2
        clear t1 t2 f1 f2 hall
        simp only [putAll, Act.put, List.setIfInBounds_toArray, List.set_cons_zero, List.set_cons_succ]
        go_wp2
        go_meet
        exact ⟨g, h, e1, e2, (oD.re [2, 3]).drop.drop, kD⟩
    case rest =>
      obtain ⟨g, h, rfl, rfl, o6, k6⟩ := hcut
      have hT2 := hT.bndT f g h
      go_wp2_with fail
      refine (setBounds_spec (b := b) f g h hT (o6.re [2, 3, 0, 1])).mono ?_
      rintro e8 w8 ⟨rfl, o8, k8⟩
      go_wp2_with fail
      refine (setBoundsR_spec (r := rb) f g h hT (o8.re [1, 0, 2, 3])).mono ?_
      rintro e9 w9 ⟨rfl, o9, k9⟩
      go_wp2
      go_ret
      exact ⟨_, hT2, by simp, (Ch.upTo (M := M + 8) (by omega) (o9.re [2])).re [1, 2, 0, 3], k6.trans (k8.trans k9)⟩
  have hb7 : (z == 7) = false := by rw [beq_eq_false_iff_ne]; omega
  have hT2 := hT.rmT f
  clear h24 h01 h5 h6 h7
  go_wp2_with fail
  refine (remove_spec (b := b) f hT (o5.re [2, 3, 0, 1])).mono ?_
  rintro e8 w8 ⟨rfl, o8, k8⟩
  go_wp2_with fail
  refine (removeR_spec (r := rb) f hT (o8.re [1, 0, 2, 3])).mono ?_
  rintro e9 w9 ⟨rfl, o9, k9⟩
  go_wp2
  go_ret
  exact ⟨_, hT2, by simp, (Ch.upTo (M := M + 8) (by omega) (o9.re [2])).re [1, 2, 0, 3], K5.trans (k8.trans k9)⟩
end
end Go.Proofs.YtladamlfbdbdgaaDoor
