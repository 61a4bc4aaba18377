/- Rules: the generator's Header (printed by genhd.py). -/
import Derived.Test.YtbldanhjbnpdiaaGreatDoorRuS
import Derived.Test.YtbldanhjbnpdiaaGreatDoorRuK
namespace Go.Proofs.YtbldanhjbnpdiaaGreatDoor
open Go.RowKit
open SP
/-- What has been done has values of these kinds. -/
def QVals (f : Nat → Value → Prop) (L : Nat → Bool) (v : Nat → Value) : Prop := ∀ i, L i = true → f i (v i)
theorem QVals.no {f : Nat → Value → Prop} {v : Nat → Value} : QVals f (fun _ => false) v := fun _ h => (Bool.false_ne_true h).elim
theorem QVals.put {f : Nat → Value → Prop} {L : Nat → Bool} {v : Nat → Value} (h : QVals f L v) (i : Nat) {x : Value} (hx : f i x) : QVals f (dIns L i) (dUpd v i x) := fun j hj => by
  unfold dUpd
  split
  · rename_i e; subst e; exact hx
  · rename_i e
    unfold dIns at hj
    rw [if_neg e] at hj
    exact h j hj
def goodP (x : Value) : Prop := ∃ s : List UInt8, s ∈ gdL ∧ x = .string (mkB s)
def intP (a b : Int) (x : Value) : Prop := ∃ n : Int, a ≤ n ∧ n ≤ b ∧ x = .int .i64 n
def noP (_ : Value) : Prop := True
/-- A header that the generator draws. -/
structure GHd (h : Hd) : Prop where
  ok : hdOK h = true
  len : h.st.length ≤ 5
def hdP (x : Value) : Prop := ∃ h : Hd, GHd h ∧ x = hdV h
section
variable {W w w' : World} {R : List SP} {cb : Nat}
def lnList : List Int := [100, 1, 60, 1500, 4096, 100, 700]
set_option maxHeartbeats 800000 in
theorem genLen_spec (N : Nat) (hN : (N : Int) ≤ 900000000000) (o : Own w (Ch W cb N :: old W :: R)) :
    Calls Tryz.prog 22 #[.pointer (some ⟨cb, 0, none⟩)] w fun e w' => ∃ x : Int, 1 ≤ x ∧ x ≤ 4096 ∧ e = .returned (.int .i64 x) ∧ Own w' (Ch W cb (N + 1) :: old W :: R) ∧ Calm w w' := by
  have o1 : Own (w.alloc (.cells (lnList.map (Value.int .i64)).toArray 3)) (cel w.heap.size 3 (lnList.map (Value.int .i64)) :: Ch W cb N :: old W :: R) := o.alloc _
  have o2 := (o1.up 2).up 2
  go_enter Tryz.func22, Tryz.ntmps22
  go_wp2_with fail
  refine (next_spec W cb N 7 _ _ (by omega) (by omega) (by omega) o2).mono ?_
  rintro e2 w2 ⟨x, hx0, hx1, rfl, o3, k3⟩
  obtain ⟨j, rfl⟩ : ∃ j : Nat, x = (j : Int) := ⟨x.toNat, by omega⟩
  have hj : j < lnList.length := by show j < 7; omega
  have c := Own.cell (v := .int .i64 lnList[j]) (o3.up 2) j (by rw [List.getElem?_map, List.getElem?_eq_getElem hj]; rfl)
  have hr : 1 ≤ lnList[j] ∧ lnList[j] ≤ 4096 := by
    have : ∀ y ∈ lnList, 1 ≤ y ∧ y ≤ 4096 := by decide
    exact this _ (List.getElem_mem hj)
  generalize lnList[j] = y at *
  go_wp2
  go_ret
  exact ⟨y, hr.1, hr.2, rfl, (o3.up 2).drop, ⟨k3.os, k3.tape, k3.output⟩⟩
theorem tq0 {x : Value} (h : x ∈ ([.int .i64 0, .int .i64 1, .int .i64 80, .int .i64 90, .int .i64 65535, .int .i64 443] : List Value)) : intP 0 65535 x := by
  simp only [List.mem_cons, List.not_mem_nil, or_false] at h
  rcases h with rfl | rfl | rfl | rfl | rfl | rfl <;> exact ⟨_, by decide, by decide, rfl⟩
theorem tq1 {x : Value} (h : x ∈ ([.int .i64 0, .int .i64 0, .int .i64 1, .int .i64 3, .int .i64 65535] : List Value)) : intP 0 65535 x := by
  simp only [List.mem_cons, List.not_mem_nil, or_false] at h
  rcases h with rfl | rfl | rfl | rfl | rfl <;> exact ⟨_, by decide, by decide, rfl⟩
theorem five {l : List Value} (h : l.length = 5) : ∃ a b c d e, l = [a, b, c, d, e] := by
  rcases l with _ | ⟨a, _ | ⟨b, _ | ⟨c, _ | ⟨d, _ | ⟨e, _ | ⟨f, r⟩⟩⟩⟩⟩⟩ <;> simp at h
  exact ⟨a, b, c, d, e, rfl⟩
theorem ghd_result {b0 : Nat} {h : Hd} (o : Own w (cel b0 29 (hdC h) :: R)) (tmps : Array Value) (hp : tmps.getD 2 undef = .pointer (some ⟨b0, 0, none⟩)) :
    (results Tryz.f8 tmps).run Tryz.prog w = .ok (hdV h) w := by
  obtain ⟨st, c, p, n, y⟩ := h
  unfold hdC at o
  have g0 := o.cell 0
  have g1 := o.cell 1
  have g2 := o.cell 2
  have g3 := o.cell 3
  have g4 := o.cell 4
  dsimp only at g0 g1 g2 g3 g4
  rw [results_cell1 Tryz.results8, hp]
  unfold hdV
  go_simp
set_option maxHeartbeats 12800000 in
set_option maxRecDepth 100000 in
theorem genHeader_spec (N : Nat) (hN : (N : Int) ≤ 800000000000) (o : Own w (Ch W cb N :: old W :: R)) :
    Calls Tryz.prog 8 #[.pointer (some ⟨cb, 0, none⟩)] w fun e w' => ∃ h : Hd, GHd h ∧ e = .returned (hdV h) ∧ Own w' (Ch W cb (N + 5) :: old W :: R) ∧ Calm w w' := by
  have o0 := (o.alloc (.cells #[.string ⟨#[]⟩, .int .i64 0, .int .i64 0, .int .i64 0, .int .i64 0] 29)).re [1, 2, 0]
  have k0 : Calm w (w.alloc (.cells #[.string ⟨#[]⟩, .int .i64 0, .int .i64 0, .int .i64 0, .int .i64 0] 29)) := ⟨rfl, rfl, rfl⟩
  go_enter Tryz.func8, Tryz.ntmps8
  go_wp2
  generalize w.heap.size = b0 at *
  generalize w.alloc _ = wa at *
  refine wp_region_draws (fun L v wc => ∃ xs : List Value, xs.length = 5 ∧ Own wc (Ch W cb (N + dOne (L 1) + dOne (L 3) + dOne (L 6) + dOne (L 10) + dOne (L 13)) :: old W :: Tb (L 4) (v 4) 3 [.int .i64 0, .int .i64 1, .int .i64 80, .int .i64 90, .int .i64 65535, .int .i64 443] :: Tb (L 11) (v 11) 3 [.int .i64 0, .int .i64 0, .int .i64 1, .int .i64 3, .int .i64 65535] :: cel b0 29 xs :: R) ∧ Calm w wc ∧
    TD L v cb 4 5 6 7 8 [.int .i64 0, .int .i64 1, .int .i64 80, .int .i64 90, .int .i64 65535, .int .i64 443] ∧ TD L v cb 11 12 13 14 15 [.int .i64 0, .int .i64 0, .int .i64 1, .int .i64 3, .int .i64 65535] ∧ QVals (fun i => ([(fun x => x = .pointer (some ⟨cb, 0, none⟩)), goodP, (fun x => x = .pointer (some ⟨cb, 0, none⟩)), intP 0 7, noP, noP, noP, noP, intP 0 65535, (fun x => x = .pointer (some ⟨cb, 0, none⟩)), intP 1 4096, noP, noP, noP, noP, intP 0 65535, hdP, noP] : List (Value → Prop)).getD i noP) L v ∧ (L 17 = true → ∃ h : Hd, GHd h ∧ xs = hdC h)) (by kernel_rfl) (by kernel_rfl) (by kernel_rfl) ?h0 ?step ?fin
  case h0 => exact ⟨_, rfl, ((Tb.no (Tb.no o0)).re [2, 3, 1, 0]).same rfl, ⟨k0.os, k0.tape, k0.output⟩, TD.no, TD.no, QVals.no, fun h => (Bool.false_ne_true h).elim⟩
  case step =>
    refine ⟨DrawStep.mk rfl ?_, DrawStep.mk rfl ?_, DrawStep.mk rfl ?_, DrawStep.mk rfl ?_, DrawStep.mk rfl ?_, DrawStep.mk rfl ?_, DrawStep.mk rfl ?_, DrawStep.mk rfl ?_, DrawStep.mk rfl ?_, DrawStep.mk rfl ?_, DrawStep.mk rfl ?_, DrawStep.mk rfl ?_, DrawStep.mk rfl ?_, DrawStep.mk rfl ?_, DrawStep.mk rfl ?_, DrawStep.mk rfl ?_, DrawStep.mk rfl ?_, DrawStep.mk rfl ?_, trivial⟩
    all_goals intro L v ac wc hL hd hA hI K' hK
    all_goals obtain ⟨xs, hxs, oD, kD, t1, t2, pv, fx⟩ := hI
    all_goals simp [Region.binds] at hd
    all_goals have b0 := dOne_le (L 1)
    all_goals have b1 := dOne_le (L 3)
    all_goals have b2 := dOne_le (L 6)
    all_goals have b3 := dOne_le (L 10)
    all_goals have b4 := dOne_le (L 13)
    · have c0 := hA.base 0 (by rfl)
      simp only [List.getElem?_toArray, List.getElem?_cons_zero, Option.getD_some] at c0
      go_simp
      exact hK.out _ _ ⟨xs, hxs, oD, kD, t1.other _ hL (by decide), t2.other _ hL (by decide), pv.put 0 rfl, fx⟩
    · have h0 : L 0 = true := by simp [hd]
      have c1 := (hA.get 0 h0).trans (pv 0 h0)
      go_simp
      rw [hL] at oD
      refine (genGoodL_spec _ (by rw [dOne_no]; omega) oD).mono ?_
      rintro e6 w6 ⟨s, hs, rfl, o6, k6⟩
      exact hK.out _ _ ⟨xs, hxs, Ch.upTo (by show _ ≤ N + dOne true + dOne (L 3) + dOne (L 6) + dOne (L 10) + dOne (L 13); rw [dOne_no, dOne_yes]; omega) o6, kD.trans k6, t1.other _ hL (by decide), t2.other _ hL (by decide), pv.put 1 ⟨s, hs, rfl⟩, fx⟩
    · have c0 := hA.base 0 (by rfl)
      simp only [List.getElem?_toArray, List.getElem?_cons_zero, Option.getD_some] at c0
      go_simp
      exact hK.out _ _ ⟨xs, hxs, oD, kD, t1.other _ hL (by decide), t2.other _ hL (by decide), pv.put 2 rfl, fx⟩
    · have h2 : L 2 = true := by simp [hd]
      have c1 := (hA.get 2 h2).trans (pv 2 h2)
      go_simp
      rw [hL] at oD
      refine (next_spec W cb _ 8 _ _ (by omega) (by omega) (by rw [dOne_no]; omega) oD).mono ?_
      rintro e6 w6 ⟨z, hz0, hz1, rfl, o6, k6⟩
      exact hK.out _ _ ⟨xs, hxs, Ch.upTo (by show _ ≤ N + dOne (L 1) + dOne true + dOne (L 6) + dOne (L 10) + dOne (L 13); rw [dOne_no, dOne_yes]; omega) o6, kD.trans k6, t1.other _ hL (by decide), t2.other _ hL (by decide), pv.put 3 ⟨z, hz0, by omega, rfl⟩, fx⟩
    · go_simp
      rw [hL] at oD
      exact hK.out _ _ ⟨xs, hxs, (Tb.new (oD.up 2) _ (((oD.up 2).alloc (.cells #[Value.int .i64 0, .int .i64 1, .int .i64 80, .int .i64 90, .int .i64 65535, .int .i64 443] 3)))).re [1, 2, 0], ⟨kD.os, kD.tape, kD.output⟩, t1.other _ hL (by decide), t2.other _ hL (by decide), pv.put 4 trivial, fx⟩
    · have c0 := hA.base 0 (by rfl)
      simp only [List.getElem?_toArray, List.getElem?_cons_zero, Option.getD_some] at c0
      go_simp
      exact hK.out _ _ ⟨xs, hxs, oD, kD, t1.doMove hL (by decide), t2.other _ hL (by decide), pv.put 5 trivial, fx⟩
    · have h5 : L 5 = true := by simp [hd]
      have c0 := (hA.get 5 h5).trans (t1.move h5)
      go_simp
      rw [hL] at oD
      refine (next_spec W cb _ 6 _ _ (by omega) (by omega) (by rw [dOne_no]; omega) oD).mono ?_
      rintro e6 w6 ⟨z, hz0, hz1, rfl, o6, k6⟩
      obtain ⟨j, rfl⟩ : ∃ j : Nat, z = (j : Int) := ⟨z.toNat, by omega⟩
      exact hK.out _ _ ⟨xs, hxs, Ch.upTo (by show _ ≤ N + dOne (L 1) + dOne (L 3) + dOne true + dOne (L 10) + dOne (L 13); rw [dOne_no, dOne_yes]; omega) o6, kD.trans k6, t1.doCall hL (by decide) (show j < 6 by omega), t2.other _ hL (by decide), pv.put 6 trivial, fx⟩
    · have h4 : L 4 = true := by simp [hd]
      have h6 : L 6 = true := by simp [hd]
      obtain ⟨j, hj, hv⟩ := t1.call h6
      rw [h4] at oD
      have c0 := hA.get 4 h4
      have c2 := (hA.get 6 h6).trans hv
      obtain ⟨g, hg⟩ := Tb.val (oD.up 2)
      rw [hg] at c0
      have hj' : (j : Int) < 6 := by have h9 : j < 6 := hj; omega
      go_simp
      exact hK.out _ _ ⟨xs, hxs, by rw [← h4] at oD; exact oD, kD, t1.doAddr hL (by decide) h4 hj hg, t2.other _ hL (by decide), pv.put 7 trivial, fx⟩
    · have h7 : L 7 = true := by simp [hd]
      obtain ⟨h0, g, j, hj, h1, h2⟩ := t1.addr h7
      rw [h0, h1] at oD
      have c3 := (hA.get 7 h7).trans h2
      have cc := Tb.at (oD.up 2) hj
      have hx : ([.int .i64 0, .int .i64 1, .int .i64 80, .int .i64 90, .int .i64 65535, .int .i64 443] : List Value)[j] ∈ ([.int .i64 0, .int .i64 1, .int .i64 80, .int .i64 90, .int .i64 65535, .int .i64 443] : List Value) := List.getElem_mem hj
      obtain ⟨s, hs0, hs1, hv⟩ := tq0 hx
      generalize ([.int .i64 0, .int .i64 1, .int .i64 80, .int .i64 90, .int .i64 65535, .int .i64 443] : List Value)[j] = y at *
      subst hv
      go_simp
      exact hK.out _ _ ⟨xs, hxs, by rw [← h0, ← h1] at oD; exact oD, kD, t1.doLoad hL (by decide) hx, t2.other _ hL (by decide), pv.put 8 ⟨s, hs0, hs1, rfl⟩, fx⟩
    · have c0 := hA.base 0 (by rfl)
      simp only [List.getElem?_toArray, List.getElem?_cons_zero, Option.getD_some] at c0
      go_simp
      exact hK.out _ _ ⟨xs, hxs, oD, kD, t1.other _ hL (by decide), t2.other _ hL (by decide), pv.put 9 rfl, fx⟩
    · have h9 : L 9 = true := by simp [hd]
      have c1 := (hA.get 9 h9).trans (pv 9 h9)
      go_simp
      rw [hL] at oD
      refine (genLen_spec _ (by rw [dOne_no]; omega) oD).mono ?_
      rintro e6 w6 ⟨z, hz0, hz1, rfl, o6, k6⟩
      exact hK.out _ _ ⟨xs, hxs, Ch.upTo (by show _ ≤ N + dOne (L 1) + dOne (L 3) + dOne (L 6) + dOne true + dOne (L 13); rw [dOne_no, dOne_yes]; omega) o6, kD.trans k6, t1.other _ hL (by decide), t2.other _ hL (by decide), pv.put 10 ⟨z, hz0, hz1, rfl⟩, fx⟩
    · go_simp
      rw [hL] at oD
      exact hK.out _ _ ⟨xs, hxs, (Tb.new (oD.up 3) _ (((oD.up 3).alloc (.cells #[Value.int .i64 0, .int .i64 0, .int .i64 1, .int .i64 3, .int .i64 65535] 3)))).re [1, 2, 3, 0], ⟨kD.os, kD.tape, kD.output⟩, t1.other _ hL (by decide), t2.other _ hL (by decide), pv.put 11 trivial, fx⟩
    · have c0 := hA.base 0 (by rfl)
      simp only [List.getElem?_toArray, List.getElem?_cons_zero, Option.getD_some] at c0
      go_simp
      exact hK.out _ _ ⟨xs, hxs, oD, kD, t1.other _ hL (by decide), t2.doMove hL (by decide), pv.put 12 trivial, fx⟩
    · have h12 : L 12 = true := by simp [hd]
      have c0 := (hA.get 12 h12).trans (t2.move h12)
      go_simp
      rw [hL] at oD
      refine (next_spec W cb _ 5 _ _ (by omega) (by omega) (by rw [dOne_no]; omega) oD).mono ?_
      rintro e6 w6 ⟨z, hz0, hz1, rfl, o6, k6⟩
      obtain ⟨j, rfl⟩ : ∃ j : Nat, z = (j : Int) := ⟨z.toNat, by omega⟩
      exact hK.out _ _ ⟨xs, hxs, Ch.upTo (by show _ ≤ N + dOne (L 1) + dOne (L 3) + dOne (L 6) + dOne (L 10) + dOne true; rw [dOne_no, dOne_yes]; omega) o6, kD.trans k6, t1.other _ hL (by decide), t2.doCall hL (by decide) (show j < 5 by omega), pv.put 13 trivial, fx⟩
    · have h11 : L 11 = true := by simp [hd]
      have h13 : L 13 = true := by simp [hd]
      obtain ⟨j, hj, hv⟩ := t2.call h13
      rw [h11] at oD
      have c0 := hA.get 11 h11
      have c2 := (hA.get 13 h13).trans hv
      obtain ⟨g, hg⟩ := Tb.val (oD.up 3)
      rw [hg] at c0
      have hj' : (j : Int) < 5 := by have h9 : j < 5 := hj; omega
      go_simp
      exact hK.out _ _ ⟨xs, hxs, by rw [← h11] at oD; exact oD, kD, t1.other _ hL (by decide), t2.doAddr hL (by decide) h11 hj hg, pv.put 14 trivial, fx⟩
    · have h14 : L 14 = true := by simp [hd]
      obtain ⟨h0, g, j, hj, h1, h2⟩ := t2.addr h14
      rw [h0, h1] at oD
      have c3 := (hA.get 14 h14).trans h2
      have cc := Tb.at (oD.up 3) hj
      have hx : ([.int .i64 0, .int .i64 0, .int .i64 1, .int .i64 3, .int .i64 65535] : List Value)[j] ∈ ([.int .i64 0, .int .i64 0, .int .i64 1, .int .i64 3, .int .i64 65535] : List Value) := List.getElem_mem hj
      obtain ⟨s, hs0, hs1, hv⟩ := tq1 hx
      generalize ([.int .i64 0, .int .i64 0, .int .i64 1, .int .i64 3, .int .i64 65535] : List Value)[j] = y at *
      subst hv
      go_simp
      exact hK.out _ _ ⟨xs, hxs, by rw [← h0, ← h1] at oD; exact oD, kD, t1.other _ hL (by decide), t2.doLoad hL (by decide) hx, pv.put 15 ⟨s, hs0, hs1, rfl⟩, fx⟩
    · have h1 : L 1 = true := by simp [hd]
      have h3 : L 3 = true := by simp [hd]
      have h8 : L 8 = true := by simp [hd]
      have h10 : L 10 = true := by simp [hd]
      have h15 : L 15 = true := by simp [hd]
      obtain ⟨s, hs, e1⟩ := pv 1 h1
      obtain ⟨c, hc0, hc1, e3⟩ := pv 3 h3
      obtain ⟨p, hp0, hp1, e8⟩ := pv 8 h8
      obtain ⟨n, hn0, hn1, e10⟩ := pv 10 h10
      obtain ⟨y, hy0, hy1, e15⟩ := pv 15 h15
      have r1 := (hA.get 1 h1).trans e1
      have r3 := (hA.get 3 h3).trans e3
      have r8 := (hA.get 8 h8).trans e8
      have r10 := (hA.get 10 h10).trans e10
      have r15 := (hA.get 15 h15).trans e15
      obtain ⟨g1, g2, g3, g4⟩ := gdL_ok s hs
      go_simp
      exact hK.out _ _ ⟨xs, hxs, oD, kD, t1.other _ hL (by decide), t2.other _ hL (by decide), pv.put 16 ⟨⟨s, c, p, n, y⟩, ⟨hdOK_good g1 ⟨hc0, hc1, hp0, hp1, hn0, hn1, hy0, hy1⟩, g4⟩, rfl⟩, fx⟩
    · have h16 : L 16 = true := by simp [hd]
      obtain ⟨h, hh, e16⟩ := pv 16 h16
      have r16 := (hA.get 16 h16).trans e16
      have c2 := hA.base 2 (by rfl)
      simp only [List.getElem?_toArray, List.getElem?_cons_zero, List.getElem?_cons_succ, Option.getD_some] at c2
      obtain ⟨x0, x1, x2, x3, x4, rfl⟩ := five hxs
      have oB := oD.up 4
      have u0 := oB.cell 0
      have u1 := oB.cell 1
      have u2 := oB.cell 2
      have u3 := oB.cell 3
      have u4 := oB.cell 4
      have uf := Own.frozen (T := 29) oB
      have ul := Own.celLt (T := 29) oB
      obtain ⟨st, c, p, n, y⟩ := h
      unfold hdV at r16
      dsimp only at r16
      have oZ := (((((oB.setCell 0 (.string (mkB st))).setCell 1 (.int .i64 c)).setCell 2 (.int .i64 p)).setCell 3 (.int .i64 n)).setCell 4 (.int .i64 y)).re [1, 2, 3, 4, 0]
      go_simp
      exact hK.out undef _ ⟨_, rfl, oZ, calmS (calmS (calmS (calmS (calmS kD)))), t1.other _ hL (by decide), t2.other _ hL (by decide), pv.put 17 trivial, fun _ => ⟨⟨st, c, p, n, y⟩, hh, rfl⟩⟩
  case fin =>
    rintro L v wc hall ⟨xs, hxs, oD, kD, t1, t2, pv, fx⟩
    obtain ⟨h, hh, rfl⟩ := fx (hall 17 (by decide))
    rw [hall 1 (by decide), hall 3 (by decide), hall 6 (by decide), hall 10 (by decide), hall 13 (by decide)] at oD
    clear t1 t2 pv hall hxs
    simp only [putAll, Act.put, List.setIfInBounds_toArray, List.set_cons_zero, List.set_cons_succ]
    have oF := oD.up 4
    go_wp2
    refine bodyPost_ret (v := hdV h) ?_ rfl ⟨h, hh, rfl, ((Ch.upTo (by rw [dOne_yes]; omega) oD).re [2, 3, 4]).drop.drop.drop, kD⟩
    exact ghd_result oF _ rfl
end
end Go.Proofs.YtbldanhjbnpdiaaGreatDoor
