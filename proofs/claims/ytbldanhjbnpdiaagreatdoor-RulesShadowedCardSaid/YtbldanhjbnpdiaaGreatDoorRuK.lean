/- Rules: the generator's Rule. -/
import Derived.Test.YtbldanhjbnpdiaaGreatDoorRuD
import Derived.Test.YtbldanhjbnpdiaaGreatDoorGenX
import Derived.Test.YtbldanhjbnpdiaaGreatDoorDraw
import Derived.Deep.DeepCutAuto
import Derived.Deep.CutBlock
namespace Go.Proofs.YtbldanhjbnpdiaaGreatDoor
open Go.RowKit
open SP
section
variable {W w w' : World} {R : List SP} {cb : Nat}
def gdL : List (List UInt8) := [[97], [97, 110, 110], [65, 110, 110], [98, 45, 49], [195, 132, 98], [206, 177, 120], [97, 46, 98, 95, 99], [122, 57]]
theorem gdL_ok : ∀ g ∈ gdL, nameB g = true ∧ 32 ∉ g ∧ g ≠ [42] ∧ g.length ≤ 5 := by decide +kernel
set_option maxHeartbeats 800000 in
theorem genGoodL_spec (N : Nat) (hN : (N : Int) ≤ 900000000000) (o : Own w (Ch W cb N :: old W :: R)) :
    Calls Tryz.prog 21 #[.pointer (some ⟨cb, 0, none⟩)] w fun e w' => ∃ s : List UInt8, s ∈ gdL ∧ e = .returned (.string (mkB s)) ∧ Own w' (Ch W cb (N + 1) :: old W :: R) ∧ Calm w w' := by
  have o1 : Own (w.alloc (.cells (gdL.map fun s => Value.string (mkB s)).toArray 9)) (cel w.heap.size 9 (gdL.map fun s => Value.string (mkB s)) :: Ch W cb N :: old W :: R) := o.alloc _
  have o2 := (o1.up 2).up 2
  go_enter Tryz.func21, Tryz.ntmps21
  go_wp2_with fail
  refine (next_spec W cb N 8 _ _ (by omega) (by omega) (by omega) o2).mono ?_
  rintro e2 w2 ⟨x, hx0, hx1, rfl, o3, k3⟩
  obtain ⟨j, rfl⟩ : ∃ j : Nat, x = (j : Int) := ⟨x.toNat, by omega⟩
  have hj : j < gdL.length := by show j < 8; omega
  have c := Own.cell (v := .string (mkB gdL[j])) (o3.up 2) j (by rw [List.getElem?_map, List.getElem?_eq_getElem hj]; rfl)
  have hr : gdL[j] ∈ gdL := List.getElem_mem hj
  generalize gdL[j] = y at *
  go_wp2
  go_ret
  exact ⟨y, hr, rfl, (o3.up 2).drop, ⟨k3.os, k3.tape, k3.output⟩⟩
theorem tblPort {x : Value} (h : x ∈ ([.int .i64 0, .int .i64 1, .int .i64 80, .int .i64 90, .int .i64 100, .int .i64 65535] : List Value)) : ∃ y : Int, 0 ≤ y ∧ y ≤ 65535 ∧ x = .int .i64 y := by
  simp only [List.mem_cons, List.not_mem_nil, or_false] at h
  rcases h with rfl | rfl | rfl | rfl | rfl | rfl <;> exact ⟨_, by decide, by decide, rfl⟩
/-- A rule that the generator draws. -/
structure GRu (r : Ru) : Prop where
  ok : ruOK r = true
  len : r.st.length ≤ 5
  sp : 32 ∉ r.st
  star : r.st ≠ [42]
theorem results_cell1 {fn : Func} {p : Tmp} {ty : TypeId} (h : fn.results = #[.cell p ty]) (tmps : Array Value) (P : Program) (w : World) :
    (results fn tmps).run P w = ((asAddr (tmps.getD p undef)).run P w).andThen fun a w₁ => (loadVar ty a).run P w₁ := by
  simp only [results, h]
  simp [Sem.run_bind, Result.andThen]
theorem gru_result {b0 : Nat} {S : ByteArray} {c f l y : Int} (o : Own w (cel b0 24 [.string S, .int .i64 c, .int .i64 f, .int .i64 l, .int .i64 y] :: R)) (tmps : Array Value) (hp : tmps.getD 2 undef = .pointer (some ⟨b0, 0, none⟩)) :
    (results Tryz.f7 tmps).run Tryz.prog w = .ok (.agg #[.string S, .int .i64 c, .int .i64 f, .int .i64 l, .int .i64 y]) w := by
  have g0 := o.cell 0
  have g1 := o.cell 1
  have g2 := o.cell 2
  have g3 := o.cell 3
  have g4 := o.cell 4
  rw [results_cell1 Tryz.results7, hp]
  go_simp
theorem calmS {x : Addr} {v : Value} (h : Calm w w') : Calm w (w'.setCell x v) := ⟨h.os, h.tape, h.output⟩
set_option maxHeartbeats 12800000 in
set_option maxRecDepth 100000 in
theorem genRule_spec (N : Nat) (hN : (N : Int) ≤ 800000000000) (o : Own w (Ch W cb N :: old W :: R)) :
    Calls Tryz.prog 7 #[.pointer (some ⟨cb, 0, none⟩)] w fun e w' => ∃ r : Ru, GRu r ∧ e = .returned (ruV r) ∧ Own w' (Ch W cb (N + 6) :: old W :: R) ∧ Calm w w' := by
  have o0 := (o.alloc (.cells #[.string ⟨#[]⟩, .int .i64 0, .int .i64 0, .int .i64 0, .int .i64 0] 24)).re [1, 2, 0]
  go_enter Tryz.func7, Tryz.ntmps7
  go_wp2_with fail
  refine (next_spec W cb N 9 _ _ (by omega) (by omega) (by omega) o0).mono ?_
  rintro e1 w1 ⟨x, hx0, hx1, rfl, o1, k1⟩
  have k1 := k1.al
  generalize w.heap.size = b0 at *
  have hwx : IntKind.i64.wrap (x - 1) = x - 1 := by rw [IntKind.wrap_i64]; omega
  obtain ⟨cl, hcl⟩ : ∃ cl, x - 1 = cl := ⟨_, rfl⟩
  rw [hcl] at hwx
  go_wp2_with fail
  refine (next_spec W cb (N + 1) 4 _ _ (by omega) (by omega) (by omega) o1).mono ?_
  rintro e2 w2 ⟨fl, hf0, hf1, rfl, o2, k2⟩
  have K2 := k1.trans k2
  have o3 := (o2.alloc (.cells #[.string ⟨#[]⟩, .int .i64 cl, .int .i64 0, .int .i64 0, .int .i64 fl] 24)).re [1, 2, 0, 3]
  go_wp2_with fail
  refine (next_spec W cb (N + 1 + 1) 2 _ _ (by omega) (by omega) (by omega) o3).mono ?_
  rintro e3 w3 ⟨z, hz0, hz1, rfl, o4, k3⟩
  have K3 := K2.trans (Calm.al k3)
  generalize w2.heap.size = b3 at *
  clear o0 o1 o2 o3 k1 k2 k3 K2
  have hcr : -1 ≤ cl ∧ cl ≤ 7 := by omega
  clear hx0 hx1 hcl
  go_upto_if 14 with fail
  go_cut [3] (fun v1 wc => v1 = .pointer (some ⟨b3, 0, none⟩) ∧ ∃ st : List UInt8, (st = [] ∨ st ∈ gdL) ∧ Own wc (Ch W cb (N + 4) :: old W :: cel b3 24 [.string (mkB st), .int .i64 cl, .int .i64 0, .int .i64 0, .int .i64 fl] :: cel b0 24 [.string ⟨#[]⟩, .int .i64 0, .int .i64 0, .int .i64 0, .int .i64 0] :: R) ∧ Calm w wc)
  case first =>
    by_cases hy : z = 0
    · subst hy
      go_wp2_with fail
      refine (genGoodL_spec (N + 1 + 1 + 1) (by omega) o4).mono ?_
      rintro e4 w4 ⟨st, hst, rfl, o5, k5⟩
      have o6 := o5.up 2
      have xf := Own.frozen (T := 24) o6
      have xl := Own.celLt (T := 24) o6
      have x0 := Own.cell (T := 24) o6 0
      go_wp2
      go_meet
      exact ⟨rfl, st, .inr hst, (o6.setCell 0 (.string (mkB st))).re [1, 2, 0, 3], calmS (K3.trans k5)⟩
    · have hyb : (z == 0) = false := by simpa using hy
      clear hy hz0 hz1
      go_wp2
      go_meet
      exact ⟨rfl, [], .inl rfl, Ch.upTo (N := N + 1 + 1 + 1) (by omega) o4, K3⟩
  case rest =>
  obtain ⟨rfl, st, hst, o5, K5⟩ := hcut
  obtain ⟨S, hS⟩ : ∃ S, mkB st = S := ⟨_, rfl⟩
  rw [hS] at o5
  have HS := Lib.hid hS
  have HST := Lib.hid hst
  clear hS hst o4 K3
  go_upto_region 4 with fail
  go_cut [4, 5, 3] (fun v1 v2 v3 wc => v3 = .pointer (some ⟨b3, 0, none⟩) ∧ ∃ g h : Int, 0 ≤ g ∧ g ≤ 65535 ∧ 0 ≤ h ∧ h ≤ 65535 ∧ v1 = .int .i64 g ∧ v2 = .int .i64 h ∧ Own wc (Ch W cb (N + 6) :: old W :: cel b3 24 [.string S, .int .i64 cl, .int .i64 0, .int .i64 0, .int .i64 fl] :: cel b0 24 [.string ⟨#[]⟩, .int .i64 0, .int .i64 0, .int .i64 0, .int .i64 0] :: R) ∧ Calm w wc)
  case first =>
    refine wp_region_draws (fun L v wc => Own wc (Ch W cb (N + 4 + dOne (L 2) + dOne (L 7)) :: old W :: Tb (L 0) (v 0) 3 [.int .i64 0, .int .i64 1, .int .i64 80, .int .i64 90, .int .i64 100, .int .i64 65535] :: Tb (L 5) (v 5) 3 [.int .i64 0, .int .i64 1, .int .i64 80, .int .i64 90, .int .i64 100, .int .i64 65535] :: cel b3 24 [.string S, .int .i64 cl, .int .i64 0, .int .i64 0, .int .i64 fl] :: cel b0 24 [.string ⟨#[]⟩, .int .i64 0, .int .i64 0, .int .i64 0, .int .i64 0] :: R) ∧ Calm w wc ∧
      TD L v cb 0 1 2 3 4 [.int .i64 0, .int .i64 1, .int .i64 80, .int .i64 90, .int .i64 100, .int .i64 65535] ∧ TD L v cb 5 6 7 8 9 [.int .i64 0, .int .i64 1, .int .i64 80, .int .i64 90, .int .i64 100, .int .i64 65535] ∧ (L 10 = true → L 4 = true ∧ v 10 = v 4) ∧ (L 11 = true → L 9 = true ∧ v 11 = v 9)) (by kernel_rfl) (by kernel_rfl) (by kernel_rfl) ?h0 ?step ?fin
    case h0 => exact ⟨((Tb.no (Tb.no o5)).re [2, 3, 0, 1]).same rfl, ⟨K5.os, K5.tape, K5.output⟩, TD.no, TD.no, fun h => (Bool.false_ne_true h).elim, fun h => (Bool.false_ne_true h).elim⟩
    case step =>
      refine ⟨DrawStep.mk rfl ?_, DrawStep.mk rfl ?_, DrawStep.mk rfl ?_, DrawStep.mk rfl ?_, DrawStep.mk rfl ?_, DrawStep.mk rfl ?_, DrawStep.mk rfl ?_, DrawStep.mk rfl ?_, DrawStep.mk rfl ?_, DrawStep.mk rfl ?_, DrawStep.mk rfl ?_, DrawStep.mk rfl ?_, trivial⟩
      all_goals intro L v a wc hL hd hA hI K' hK
      all_goals obtain ⟨oD, kD, t1, t2, f1, f2⟩ := hI
      all_goals simp [Region.binds] at hd
      · go_simp
        rw [hL] at oD
        exact hK.out _ _ ⟨(Tb.new (oD.up 2) _ (((oD.up 2).alloc (.cells #[Value.int .i64 0, .int .i64 1, .int .i64 80, .int .i64 90, .int .i64 100, .int .i64 65535] 3)))).re [1, 2, 0, 3], ⟨kD.os, kD.tape, kD.output⟩, t1.other _ hL (by decide), t2.other _ hL (by decide), f1, f2⟩
      · have c0 := hA.base 0 (by rfl)
        simp only [List.getElem?_toArray, List.getElem?_cons_zero, Option.getD_some] at c0
        go_simp
        exact hK.out _ _ ⟨oD, kD, t1.doMove hL (by decide), t2.other _ hL (by decide), f1, f2⟩
      · have c0 := (hA.get 1 hd).trans (t1.move hd)
        go_simp
        rw [hL] at oD
        have b7 := dOne_le (L 7)
        refine (next_spec W cb _ 6 _ _ (by omega) (by omega) (by rw [dOne_no]; omega) oD).mono ?_
        rintro e6 w6 ⟨z, hz0, hz1, rfl, o6, k6⟩
        obtain ⟨j, rfl⟩ : ∃ j : Nat, z = (j : Int) := ⟨z.toNat, by omega⟩
        refine hK.out _ _ ⟨Ch.upTo (by show _ ≤ N + 4 + dOne true + dOne (L 7); rw [dOne_no, dOne_yes]; omega) o6, kD.trans k6, t1.doCall hL (by decide) (show j < 6 by omega), t2.other _ hL (by decide), f1, f2⟩
      · obtain ⟨j, hj, hv⟩ := t1.call hd.2
        rw [hd.1] at oD
        have c0 := hA.get 0 hd.1
        have c2 := (hA.get 2 hd.2).trans hv
        obtain ⟨g, hg⟩ := Tb.val (oD.up 2)
        rw [hg] at c0
        have hj' : (j : Int) < 6 := by have h4 : j < 6 := hj; omega
        go_simp
        exact hK.out _ _ ⟨by rw [← hd.1] at oD; exact oD, kD, t1.doAddr hL (by decide) hd.1 hj hg, t2.other _ hL (by decide), f1, f2⟩
      · obtain ⟨h0, g, j, hj, h1, h2⟩ := t1.addr hd
        rw [h0, h1] at oD
        have c3 := (hA.get 3 hd).trans h2
        have cc := Tb.at (oD.up 2) hj
        have hx : ([.int .i64 0, .int .i64 1, .int .i64 80, .int .i64 90, .int .i64 100, .int .i64 65535] : List Value)[j] ∈ ([.int .i64 0, .int .i64 1, .int .i64 80, .int .i64 90, .int .i64 100, .int .i64 65535] : List Value) := List.getElem_mem hj
        obtain ⟨x, hx0⟩ := tblInt [0, 1, 80, 90, 100, 65535] hx
        generalize ([.int .i64 0, .int .i64 1, .int .i64 80, .int .i64 90, .int .i64 100, .int .i64 65535] : List Value)[j] = y at *
        subst hx0
        go_simp
        exact hK.out _ _ ⟨by rw [← h0, ← h1] at oD; exact oD, kD, t1.doLoad hL (by decide) hx, t2.other _ hL (by decide), fun h => (by rw [hL] at f1; cases (f1 h).1), f2⟩
      · go_simp
        rw [hL] at oD
        exact hK.out _ _ ⟨(Tb.new (oD.up 3) _ (((oD.up 3).alloc (.cells #[Value.int .i64 0, .int .i64 1, .int .i64 80, .int .i64 90, .int .i64 100, .int .i64 65535] 3)))).re [1, 2, 3, 0], ⟨kD.os, kD.tape, kD.output⟩, t1.other _ hL (by decide), t2.other _ hL (by decide), f1, f2⟩
      · have c0 := hA.base 0 (by rfl)
        simp only [List.getElem?_toArray, List.getElem?_cons_zero, Option.getD_some] at c0
        go_simp
        exact hK.out _ _ ⟨oD, kD, t1.other _ hL (by decide), t2.doMove hL (by decide), f1, f2⟩
      · have c0 := (hA.get 6 hd.1).trans (t2.move hd.1)
        go_simp
        rw [hL] at oD
        have b2 := dOne_le (L 2)
        refine (next_spec W cb _ 6 _ _ (by omega) (by omega) (by rw [dOne_no]; omega) oD).mono ?_
        rintro e6 w6 ⟨z, hz0, hz1, rfl, o6, k6⟩
        obtain ⟨j, rfl⟩ : ∃ j : Nat, z = (j : Int) := ⟨z.toNat, by omega⟩
        refine hK.out _ _ ⟨Ch.upTo (by show _ ≤ N + 4 + dOne (L 2) + dOne true; rw [dOne_no, dOne_yes]; omega) o6, kD.trans k6, t1.other _ hL (by decide), t2.doCall hL (by decide) (show j < 6 by omega), f1, f2⟩
      · obtain ⟨j, hj, hv⟩ := t2.call hd.2
        rw [hd.1] at oD
        have c0 := hA.get 5 hd.1
        have c2 := (hA.get 7 hd.2).trans hv
        obtain ⟨g, hg⟩ := Tb.val (oD.up 3)
        rw [hg] at c0
        have hj' : (j : Int) < 6 := by have h4 : j < 6 := hj; omega
        go_simp
        exact hK.out _ _ ⟨by rw [← hd.1] at oD; exact oD, kD, t1.other _ hL (by decide), t2.doAddr hL (by decide) hd.1 hj hg, f1, f2⟩
      · obtain ⟨h0, g, j, hj, h1, h2⟩ := t2.addr hd
        rw [h0, h1] at oD
        have c3 := (hA.get 8 hd).trans h2
        have cc := Tb.at (oD.up 3) hj
        have hx : ([.int .i64 0, .int .i64 1, .int .i64 80, .int .i64 90, .int .i64 100, .int .i64 65535] : List Value)[j] ∈ ([.int .i64 0, .int .i64 1, .int .i64 80, .int .i64 90, .int .i64 100, .int .i64 65535] : List Value) := List.getElem_mem hj
        obtain ⟨x, hx0⟩ := tblInt [0, 1, 80, 90, 100, 65535] hx
        generalize ([.int .i64 0, .int .i64 1, .int .i64 80, .int .i64 90, .int .i64 100, .int .i64 65535] : List Value)[j] = y at *
        subst hx0
        go_simp
        exact hK.out _ _ ⟨by rw [← h0, ← h1] at oD; exact oD, kD, t1.other _ hL (by decide), t2.doLoad hL (by decide) hx, f1, fun h => (by rw [hL] at f2; cases (f2 h).1)⟩
      · have c4 := hA.get 4 hd.1
        go_simp
        exact hK.out _ _ ⟨oD, kD, t1.other _ hL (by decide), t2.other _ hL (by decide), fun _ => ⟨hd.1, rfl⟩, f2⟩
      · have c4 := hA.get 9 hd.1
        go_simp
        exact hK.out _ _ ⟨oD, kD, t1.other _ hL (by decide), t2.other _ hL (by decide), f1, fun _ => ⟨hd.1, rfl⟩⟩
    case fin =>
      rintro L v wc hall ⟨oD, kD, t1, t2, f1, f2⟩
      have e1 := (f1 (hall 10 (by decide))).2
      have e2 := (f2 (hall 11 (by decide))).2
      obtain ⟨g, zg0, zg1, hg⟩ := tblPort (t1.load (hall 4 (by decide)))
      obtain ⟨h, zh0, zh1, hh⟩ := tblPort (t2.load (hall 9 (by decide)))
      rw [hall 2 (by decide), hall 7 (by decide)] at oD
      rw [hg] at e1
      rw [hh] at e2
      clear t1 t2 f1 f2 hall
      simp only [putAll, Act.put, List.setIfInBounds_toArray, List.set_cons_zero, List.set_cons_succ]
      go_wp2
      go_meet
      exact ⟨rfl, g, h, zg0, zg1, zh0, zh1, e1, e2, (Ch.upTo (by rw [dOne_yes]; omega) oD |>.re [2, 3]).drop.drop, kD⟩
  case rest =>
  obtain ⟨rfl, g, h, zg0, zg1, zh0, zh1, rfl, rfl, o6, K6⟩ := hcut
  have o7 := o6.up 2
  have xf := Own.frozen (T := 24) o7
  have xl := Own.celLt (T := 24) o7
  have x0 := Own.cell (T := 24) o7 0
  have x1 := Own.cell (T := 24) o7 1
  have x2 := Own.cell (T := 24) o7 2
  have x3 := Own.cell (T := 24) o7 3
  have x4 := Own.cell (T := 24) o7 4
  have fin : ∀ (mn mx : Int), 0 ≤ mn → mn ≤ mx → mx ≤ 65535 → ∀ wl, Own wl (cel b0 24 [.string S, .int .i64 cl, .int .i64 mn, .int .i64 mx, .int .i64 fl] :: cel b3 24 [.string S, .int .i64 cl, .int .i64 mn, .int .i64 mx, .int .i64 fl] :: Ch W cb (N + 6) :: old W :: R) → Calm w wl →
      ∃ r : Ru, GRu r ∧ Ending.returned (.agg #[.string S, .int .i64 cl, .int .i64 mn, .int .i64 mx, .int .i64 fl]) = .returned (ruV r) ∧ Own wl (Ch W cb (N + 6) :: old W :: R) ∧ Calm w wl := by
    intro mn mx h1 h2 h3 wl ol kl
    refine ⟨⟨st, cl, mn, mx, fl⟩, ?_, ?_, ol.drop.drop, kl⟩
    · rcases HST.out with rfl | hst
      · exact ⟨ruOK_good (.inl rfl) ⟨hcr.1, hcr.2, h1, h2, h3, by show 0 ≤ fl; omega, by show fl < 32; omega⟩, by simp, by simp, by simp⟩
      · obtain ⟨q1, q2, q3, q4⟩ := gdL_ok st hst
        exact ⟨ruOK_good (.inr q1) ⟨hcr.1, hcr.2, h1, h2, h3, by show 0 ≤ fl; omega, by show fl < 32; omega⟩, q4, q2, q3⟩
    · unfold ruV; dsimp only; rw [HS.out]
  have FIN := Lib.hid fin
  clear fin
  obtain ⟨lo, hlo⟩ : ∃ lo, min g h = lo := ⟨_, rfl⟩
  obtain ⟨hi, hhi⟩ : ∃ hi, max g h = hi := ⟨_, rfl⟩
  have r1 : 0 ≤ lo := by omega
  have r2 : lo ≤ hi := by omega
  have r3 : hi ≤ 65535 := by omega
  have oE := (o7.setCell 2 (.int .i64 lo)).setCell 3 (.int .i64 hi)
  have oY := oE.up 3
  have oF := ((((oY.setCell 0 (.string S)).setCell 1 (.int .i64 cl)).setCell 2 (.int .i64 lo)).setCell 3 (.int .i64 hi)).setCell 4 (.int .i64 fl)
  go_upto_region 6 with fail
  clear x0 x1 x2 x3 x4 xf xl
  have q0 := Own.cell (T := 24) oE 0
  have q1 := Own.cell (T := 24) oE 1
  have q2 := Own.cell (T := 24) oE 2
  have q3 := Own.cell (T := 24) oE 3
  have q4 := Own.cell (T := 24) oE 4
  have yf := Own.frozen (T := 24) oY
  have yl := Own.celLt (T := 24) oY
  have y0 := Own.cell (T := 24) oY 0
  have y1 := Own.cell (T := 24) oY 1
  have y2 := Own.cell (T := 24) oY 2
  have y3 := Own.cell (T := 24) oY 3
  have y4 := Own.cell (T := 24) oY 4
  go_wp2
  refine bodyPost_ret (v := .agg #[.string S, .int .i64 cl, .int .i64 lo, .int .i64 hi, .int .i64 fl]) ?_ rfl (FIN.out lo hi r1 r2 r3 _ oF (calmS (calmS (calmS (calmS (calmS (calmS (calmS K6))))))))
  exact gru_result oF _ rfl
end
end Go.Proofs.YtbldanhjbnpdiaaGreatDoor
