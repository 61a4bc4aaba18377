/- The laws of chapter 10: FlowsScript. -/
import Derived.Test.YtladamlfbdbdgaaDoorFlO
import Derived.Test.YtladamlfbdbdgaaDoorFlQ
namespace Go.Proofs.YtladamlfbdbdgaaDoor
open Go.RowKit
open SP
section
variable {W w w' : World} {R : List SP} {b rb cb : Nat} {T : Tab}
def ScrRel (W : World) (b rb cb : Nat) (v : Value) (wr : World) : Prop :=
  ∃ (i : Nat) (T : Tab), v = .int .i64 (i : Int) ∧ i ≤ 40 ∧ T.Ok ∧ Own wr [FlowR rb T, FlowP b T, Ch W cb (2 + i * 9), old W] ∧ Calm W wr
set_option maxHeartbeats 12800000 in
set_option maxRecDepth 100000 in
theorem flowsScript_walk (a0 : Option Addr) (len0 cap0 : Nat) (z0 : List Int) (p q : Int) (w : World) (w0 : IsRow .i64 w a0 len0 cap0 z0) (_ : (Lit.int .i64 p).wf = true) (_ : (Lit.int .i64 q).wf = true) (hW : TabsW w) :
    Calls Tryd.prog 6 #[.slice a0 len0 cap0, .int .i64 p, .int .i64 q] w fun e w' => e = .returned (.bool true) ∧ Below w.heap.size w w' := by
  have oW := Own.start w
  go_enter Tryd.func6, Tryd.ntmps6
  go_wp2_with fail
  refine (genNew_spec a0 len0 cap0 z0 w0 oW).mono ?_
  rintro e1 v1 ⟨cb, rfl, o1, k1⟩
  go_upto_region 2 with fail
  go_cut [8, 9] (fun u1 u2 wc => ∃ n k : Int, u1 = .int .i64 n ∧ u2 = .int .i64 k ∧ 1 ≤ n ∧ n ≤ 512 ∧ 1 ≤ k ∧ k ≤ 12 ∧ Own wc [Ch w cb 2, old w] ∧ Calm w wc)
  case first =>
    refine wp_region_draws (fun L v wc => Own wc [Ch w cb (0 + dOne (L 2) + dOne (L 6)), old w, Tb (L 0) (v 0) 3 [.int .i64 512, .int .i64 20, .int .i64 5, .int .i64 1]] ∧ Calm w wc ∧
      TD L v cb 0 1 2 3 4 [.int .i64 512, .int .i64 20, .int .i64 5, .int .i64 1] ∧ (L 5 = true → v 5 = .pointer (some ⟨cb, 0, none⟩)) ∧ (L 6 = true → ∃ j : Int, 0 ≤ j ∧ j < 3 ∧ v 6 = .int .i64 j) ∧
      (L 7 = true → ∃ j : Int, 1 ≤ j ∧ j ≤ 3 ∧ v 7 = .int .i64 j) ∧ (L 8 = true → L 4 = true ∧ v 8 = v 4) ∧ (L 9 = true → L 7 = true ∧ v 9 = v 7)) (by kernel_rfl) (by kernel_rfl) (by kernel_rfl) ?h0 ?step ?fin
    case h0 => exact ⟨((Tb.no o1).re [1, 2, 0]).same rfl, ⟨k1.os, k1.tape, k1.output⟩, TD.no, fun h => (Bool.false_ne_true h).elim, fun h => (Bool.false_ne_true h).elim, fun h => (Bool.false_ne_true h).elim, fun h => (Bool.false_ne_true h).elim, fun h => (Bool.false_ne_true h).elim⟩
    case step =>
      refine ⟨DrawStep.mk rfl ?_, DrawStep.mk rfl ?_, DrawStep.mk rfl ?_, DrawStep.mk rfl ?_, DrawStep.mk rfl ?_, DrawStep.mk rfl ?_, DrawStep.mk rfl ?_, DrawStep.mk rfl ?_, DrawStep.mk rfl ?_, DrawStep.mk rfl ?_, trivial⟩
      all_goals intro L v a wc hL hd hA hI K' hK
      all_goals obtain ⟨oD, kD, t1, f5, f6, f7, f8, f9⟩ := hI
      all_goals simp [Region.binds] at hd
      · go_simp
        rw [hL] at oD
        exact hK.out _ _ ⟨(Tb.new (oD.up 2) _ (((oD.up 2).alloc (.cells #[Value.int IntKind.i64 512, .int .i64 20, .int .i64 5, .int .i64 1] 3)))).re [1, 2, 0], ⟨kD.os, kD.tape, kD.output⟩, t1.other _ hL (by decide), f5, f6, f7, f8, f9⟩
      · have c0 := hA.base 7 (by rfl)
        simp only [List.getElem?_toArray, List.getElem?_cons_zero, List.getElem?_cons_succ, Option.getD_some] at c0
        go_simp
        exact hK.out _ _ ⟨oD, kD, t1.doMove hL (by decide), f5, f6, f7, f8, f9⟩
      · have c0 := (hA.get 1 hd).trans (t1.move hd)
        go_simp
        rw [hL] at oD
        have b7 := dOne_le (L 6)
        refine (next_spec w cb _ 4 _ _ (by omega) (by omega) (by rw [dOne_no]; omega) oD).mono ?_
        rintro e6 w6 ⟨z, hz0, hz1, rfl, o6, k6⟩
        obtain ⟨j, rfl⟩ : ∃ j : Nat, z = (j : Int) := ⟨z.toNat, by omega⟩
        refine hK.out _ _ ⟨Ch.upTo (by show _ ≤ 0 + dOne true + dOne (L 6); rw [dOne_no, dOne_yes]; omega) o6, kD.trans k6, t1.doCall hL (by decide) (show j < 4 by omega), f5, f6, f7, f8, f9⟩
      · obtain ⟨j, hj, hv⟩ := t1.call hd.2
        rw [hd.1] at oD
        have c0 := hA.get 0 hd.1
        have c2 := (hA.get 2 hd.2).trans hv
        obtain ⟨g, hg⟩ := Tb.val (oD.up 2)
        rw [hg] at c0
        have hj' : (j : Int) < 4 := by have h4 : j < 4 := hj; omega
        go_simp
        exact hK.out _ _ ⟨by rw [← hd.1] at oD; exact oD, kD, t1.doAddr hL (by decide) hd.1 hj hg, f5, f6, f7, f8, f9⟩
      · obtain ⟨h0, g, j, hj, h1, h2⟩ := t1.addr hd
        rw [h0, h1] at oD
        have c3 := (hA.get 3 hd).trans h2
        have cc := Tb.at (oD.up 2) hj
        have hx : ([.int .i64 512, .int .i64 20, .int .i64 5, .int .i64 1] : List Value)[j] ∈ ([.int .i64 512, .int .i64 20, .int .i64 5, .int .i64 1] : List Value) := List.getElem_mem hj
        obtain ⟨x, hx0⟩ := tblInt [512, 20, 5, 1] hx
        generalize ([.int .i64 512, .int .i64 20, .int .i64 5, .int .i64 1] : List Value)[j] = y at *
        subst hx0
        go_simp
        exact hK.out _ _ ⟨by rw [← h0, ← h1] at oD; exact oD, kD, t1.doLoad hL (by decide) hx, f5, f6, f7, fun h => (by rw [hL] at f8; cases (f8 h).1), f9⟩
      · have c0 := hA.base 7 (by rfl)
        simp only [List.getElem?_toArray, List.getElem?_cons_zero, List.getElem?_cons_succ, Option.getD_some] at c0
        go_simp
        exact hK.out _ _ ⟨oD, kD, t1.other _ hL (by decide), fun _ => rfl, f6, f7, f8, f9⟩
      · have c0 := (hA.get 5 hd.1).trans (f5 hd.1)
        go_simp
        rw [hL] at oD
        have b2 := dOne_le (L 2)
        refine (next_spec w cb _ 3 _ _ (by omega) (by omega) (by rw [dOne_no]; omega) oD).mono ?_
        rintro e6 w6 ⟨z, hz0, hz1, rfl, o6, k6⟩
        refine hK.out _ _ ⟨Ch.upTo (by show _ ≤ 0 + dOne (L 2) + dOne true; rw [dOne_no, dOne_yes]; omega) o6, kD.trans k6, t1.other _ hL (by decide), f5, fun _ => ⟨z, hz0, hz1, rfl⟩, f7, f8, f9⟩
      · obtain ⟨j, hj0, hj1, hj2⟩ := f6 hd
        have c6 := (hA.get 6 hd).trans hj2
        have hwr : IntKind.i64.wrap (1 + j) = 1 + j := by rw [IntKind.wrap_i64]; omega
        go_simp
        refine hK.out _ _ ⟨oD, kD, t1.other _ hL (by decide), f5, f6, fun _ => ⟨1 + j, by omega, by omega, rfl⟩, f8, fun h => (by rw [hL] at f9; cases (f9 h).1)⟩
      · have c4 := hA.get 4 hd.1
        go_simp
        exact hK.out _ _ ⟨oD, kD, t1.other _ hL (by decide), f5, f6, f7, fun _ => ⟨hd.1, rfl⟩, f9⟩
      · have c4 := hA.get 7 hd.1
        go_simp
        exact hK.out _ _ ⟨oD, kD, t1.other _ hL (by decide), f5, f6, f7, f8, fun _ => ⟨hd.1, rfl⟩⟩
    case fin =>
      rintro L v wc hall ⟨oD, kD, t1, f5, f6, f7, f8, f9⟩
      have e1 := (f8 (hall 8 (by decide))).2
      have e2 := (f9 (hall 9 (by decide))).2
      have hm := t1.load (hall 4 (by decide))
      obtain ⟨k, hk0, hk1, hk2⟩ := f7 (hall 7 (by decide))
      rw [hall 2 (by decide), hall 6 (by decide)] at oD
      rw [hk2] at e2
      have hg : ∃ n : Int, v 8 = .int .i64 n ∧ 1 ≤ n ∧ n ≤ 512 := by
        rw [e1]
        simp only [List.mem_cons, List.not_mem_nil, or_false] at hm
        rcases hm with h | h | h | h <;> exact ⟨_, h, by omega, by omega⟩
      obtain ⟨n, hn, hn1, hn2⟩ := hg
      clear t1 f5 f6 f7 f8 f9 hall e1 hm hk2
      simp only [putAll, Act.put, List.setIfInBounds_toArray, List.set_cons_zero, List.set_cons_succ]
      go_wp2
      go_meet
      exact ⟨n, k, hn, e2, hn1, hn2, by omega, by omega, (oD.up 2).drop, kD⟩
  case rest =>
    obtain ⟨n, k, rfl, rfl, hn1, hn2, hk1, hk2, o2, k2⟩ := hcut
    have hT0 := Tab.Ok.new n k ⟨hn1, hn2⟩ ⟨hk1, hk2⟩
    clear o1 k1
    go_wp2_with fail
    refine (flNew_spec n k ⟨hn1, hn2⟩ ⟨hk1, hk2⟩ o2).mono ?_
    rintro e3 v3 ⟨b, rfl, o3, k3⟩
    go_wp2_with fail
    refine (refNew10_spec n k ⟨hn1, hn2⟩ ⟨hk1, hk2⟩ o3).mono ?_
    rintro e4 v4 ⟨rb, rfl, o4, k4⟩
    have hrel0 : ScrRel w b rb cb (.int .i64 0) v4 := ⟨0, _, rfl, by omega, hT0, o4, k2.trans (k3.trans k4)⟩
    clear o2 k2 o3 k3 o4 k4 hT0 hn1 hn2 hk1 hk2
    go_wp2
    go_loopw [14] (fun v wr => ScrRel w b rb cb v wr) (fun v _ => 40 - (intOf v).toNat)
    case atStart => exact hrel0
    case round =>
      clear hrel0
      obtain ⟨i, T, rfl, hi, hT, oR, kR⟩ := hrel
      by_cases hlt : i < 40
      · go_wp2_with fail
        refine (act10_spec (W := w) (2 + i * 9) p q hT (by omega) hW (oR.re [1, 0])).mono ?_
        rintro e5 w5 ⟨T2, hT2, rfl, o5, k5⟩
        go_wp2_with fail
        refine (same10_spec (W := w) (2 + i * 9 + 8) p hT2 (by omega) hW o5).mono ?_
        rintro e6 w6 ⟨rfl, o6, k6⟩
        have e9 : 2 + i * 9 + 8 + 1 = 2 + (i + 1) * 9 := by omega
        rw [e9] at o6
        have H9 := Lib.hid e9
        clear e9
        go_wp2
        go_roundw
        case rel => exact ⟨i + 1, T2, by go_num, by omega, hT2, o6, kR.trans (k5.trans k6)⟩
        case measure => simp [intOf]; omega
      · by_cases hne : newFE p q = 0
        · have hr : (1 ≤ p ∧ p ≤ 512) ∧ (1 ≤ q ∧ q ≤ 12) := by
            unfold newFE at hne
            split at hne
            · omega
            · omega
          have HR := Lib.hid hr
          clear hr hne
          go_wp2_with fail
          refine (flNew_spec p q HR.out.1 HR.out.2 oR).mono ?_
          rintro e5 w5 ⟨b2, rfl, o5, k5⟩
          go_wp2_with fail
          refine (refNew10_spec p q HR.out.1 HR.out.2 o5).mono ?_
          rintro e6 w6 ⟨rb2, rfl, o6, k6⟩
          go_wp2_with fail
          refine (awake10_spec hW (o6.up 5)).mono ?_
          rintro e7 w7 ⟨rfl, o7, k7⟩
          go_wp2
          go_ret
          exact ⟨rfl, o7.below (kR.trans (k5.trans (k6.trans k7)))⟩
        · have h1 := fun w1 : World => flNew_bad (w := w1) p q hne
          have h2 := fun w1 : World => refNew10_bad (w := w1) p q hne
          have H1 := Lib.hid h1
          have H2 := Lib.hid h2
          clear h1 h2 hne
          go_wp2_with fail
          refine (H1.out _).mono ?_
          rintro e5 w5 ⟨rfl, rfl⟩
          go_wp2_with fail
          refine (H2.out _).mono ?_
          rintro e6 w6 ⟨rfl, rfl⟩
          go_wp2_with fail
          refine (awake10_spec hW (oR.up 3)).mono ?_
          rintro e7 w7 ⟨rfl, o7, k7⟩
          go_wp2
          go_ret
          exact ⟨rfl, o7.below (kR.trans k7)⟩
end
end Go.Proofs.YtladamlfbdbdgaaDoor
