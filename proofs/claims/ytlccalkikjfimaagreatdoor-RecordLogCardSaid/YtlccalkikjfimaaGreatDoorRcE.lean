/- Records: 'formats', drawn records, 'awake'. -/
import Derived.Test.YtlccalkikjfimaaGreatDoorRcD
import Derived.Test.YtlccalkikjfimaaGreatDoorGenX
import Derived.Laws.ResultCell
namespace Go.Proofs.YtlccalkikjfimaaGreatDoor
open Go.RowKit
open SP
section
variable {W w w' : World} {R : List SP} {cb : Nat}
theorem results_cell {fn : Func} {p : Tmp} {ty : TypeId} (h : fn.results = #[.cell p ty]) (tmps : Array Value) (P : Program) (w : World) :
    (results fn tmps).run P w = ((asAddr (tmps.getD p undef)).run P w).andThen fun a w₁ => (loadVar ty a).run P w₁ := by
  simp only [results, h]
  simp [Sem.run_bind, Result.andThen]
theorem recC_mk (a b c d e g : Int) : [.int .i64 a, .int .i64 b, .int .i64 c, .int .i64 d, .int .i64 e, .int .i64 g] = recC ⟨a, b, c, d, e, g⟩ := rfl
theorem gr_result {b0 : Nat} {A B C d e G : Int} (o : Own w (cel b0 39 [.int .i64 A, .int .i64 B, .int .i64 C, .int .i64 d, .int .i64 e, .int .i64 G] :: R)) (tmps : Array Value) (hp : tmps.getD 2 undef = .pointer (some ⟨b0, 0, none⟩)) :
    (results Tryz.f12 tmps).run Tryz.prog w = .ok (recV ⟨A, B, C, d, e, G⟩) w := by
  have g0 := o.cell 0
  have g1 := o.cell 1
  have g2 := o.cell 2
  have g3 := o.cell 3
  have g4 := o.cell 4
  have g5 := o.cell 5
  rw [results_cell rfl, hp]
  go_simp
  rfl
theorem calm_set {x : Addr} {v : Value} (h : Calm w w') : Calm w (w'.setCell x v) := ⟨h.os, h.tape, h.output⟩
def GrMid (W : World) (cb N b0 b3 : Nat) (R : List SP) (w wc : World) : Prop :=
  ∃ (a b c d e g : Int), Own wc (cel b3 39 [.int .i64 a, .int .i64 b, .int .i64 c, .int .i64 d, .int .i64 e, .int .i64 g] :: cel b0 39 [.int .i64 0, .int .i64 0, .int .i64 0, .int .i64 0, .int .i64 0, .int .i64 0] :: Ch W cb N :: old W :: R) ∧ Calm w wc
set_option maxHeartbeats 6400000 in
set_option maxRecDepth 100000 in
theorem genRecord_spec (N : Nat) (hN : (N : Int) ≤ 900000000000) (o : Own w (Ch W cb N :: old W :: R)) :
    Calls Tryz.prog 12 #[.pointer (some ⟨cb, 0, none⟩)] w fun e w' => ∃ r : Rec, e = .returned (recV r) ∧ Own w' (Ch W cb (N + 8) :: old W :: R) ∧ Calm w w' := by
  have oA := ((o.alloc (.cells #[.int .i64 0, .int .i64 0, .int .i64 0, .int .i64 0, .int .i64 0, .int .i64 0] 39)).up 2).up 2
  go_enter Tryz.func12, Tryz.ntmps12
  go_wp2_with fail
  refine (next_spec W cb N 20 _ _ (by omega) (by omega) (by omega) oA).mono ?_
  rintro e1 w1 ⟨a, ha0, ha1, rfl, o1, k1⟩
  go_wp2_with fail
  refine (next_spec W cb (N + 1) 10 _ _ (by omega) (by omega) (by omega) o1).mono ?_
  rintro e2 w2 ⟨b, hb0, hb1, rfl, o2, k2⟩
  go_wp2_with fail
  refine (next_spec W cb (N + 2) 5 _ _ (by omega) (by omega) (by omega) o2).mono ?_
  rintro e3 w3 ⟨c, hc0, hc1, rfl, o3, k3⟩
  go_wp2_with fail
  refine (next_spec W cb (N + 3) 9 _ _ (by omega) (by omega) (by omega) o3).mono ?_
  rintro e4 w4 ⟨d, hd0, hd1, rfl, o4, k4⟩
  go_wp2_with fail
  refine (next_spec W cb (N + 4) 7 _ _ (by omega) (by omega) (by omega) o4).mono ?_
  rintro e5 w5 ⟨e, he0, he1, rfl, o5, k5⟩
  go_wp2_with fail
  refine (next_spec W cb (N + 5) 2000 _ _ (by omega) (by omega) (by omega) o5).mono ?_
  rintro e6 w6 ⟨g, hg0, hg1, rfl, o6, k6⟩
  have x1 : IntKind.i64.wrap (1 + b) = 1 + b := by rw [IntKind.wrap_i64]; omega
  have x2 : IntKind.i64.wrap (c - 1) = c - 1 := by rw [IntKind.wrap_i64]; omega
  have x3 : IntKind.i64.wrap (g - 5) = g - 5 := by rw [IntKind.wrap_i64]; omega
  have K6 := k1.al.trans (k2.trans (k3.trans (k4.trans (k5.trans k6))))
  have hb0 : w.heap.size < w6.heap.size := (o6.up 2).celLt
  clear o o1 o2 o3 o4 o5 oA k1 k2 k3 k4 k5 k6
  have o7 := ((o6.alloc (.cells #[.int .i64 a, .int .i64 (1 + b), .int .i64 (c - 1), .int .i64 d, .int .i64 e, .int .i64 (g - 5)] 39)).up 2).up 2
  go_wp2_with fail
  refine (next_spec W cb (N + 6) 14 _ _ (by omega) (by omega) (by omega) o7).mono ?_
  rintro e8 w8 ⟨y, hy0, hy1, rfl, o8, k8⟩
  have K8 := K6.trans k8.al
  have o9 := o8.re [2, 3, 0, 1]
  have hb6 : w6.heap.size < w8.heap.size := (o8.up 2).celLt
  obtain ⟨A, hA⟩ : ∃ A, A = a := ⟨_, rfl⟩
  obtain ⟨B, hB⟩ : ∃ B, B = 1 + b := ⟨_, rfl⟩
  obtain ⟨C, hC⟩ : ∃ C, C = c - 1 := ⟨_, rfl⟩
  obtain ⟨G, hG⟩ : ∃ G, G = g - 5 := ⟨_, rfl⟩
  rw [← hA, ← hB, ← hC, ← hG] at o8
  clear o9 hA hB hC hG
  generalize hbx3 : w6.heap.size = b3 at *
  generalize hbx0 : w.heap.size = b0 at *
  clear hbx3 hbx0 o7 o6
  go_upto_block 0 with fail
  go_cut [22] (fun _ wc => GrMid W cb (N + 8) b0 b3 R w wc)
  case first =>
    by_cases h0 : y = 0
    · subst h0
      have oB := ((o8.alloc (.cells #[.int .i64 0, .int .i64 11] 3)).up 2).up 2
      go_wp2_with fail
      refine (next_spec W cb (N + 7) 2 _ _ (by omega) (by omega) (by omega) oB).mono ?_
      rintro e9 w9 ⟨z, hz0, hz1, rfl, o9, k9⟩
      obtain ⟨j, rfl⟩ : ∃ j : Nat, z = (j : Int) := ⟨z.toNat, by omega⟩
      obtain ⟨q, hq⟩ : ∃ q : Int, ([.int .i64 0, .int .i64 11] : List Value)[j]? = some (.int .i64 q) := by
        have : j = 0 ∨ j = 1 := by omega
        rcases this with rfl | rfl <;> exact ⟨_, rfl⟩
      have c4 := Own.cell (T := 3) (vs := [.int .i64 0, .int .i64 11]) (o9.up 2) j hq
      clear hq
      have f3 := (o9.up 3).frozen
      have l3 := (o9.up 3).celLt
      have d3 := (o9.up 3).cell 1
      have oS := (o9.up 3).setCell 1 (.int .i64 q)
      go_wp2
      go_meet
      exact ⟨A, q, C, d, e, G, (oS.re [3, 0, 4, 1, 2] 1), ⟨(K8.trans k9.al).os, (K8.trans k9.al).tape, (K8.trans k9.al).output⟩⟩
    · have hb0' : (y == 0) = false := by simpa using h0
      by_cases h1 : y = 1
      · subst h1
        have oB := ((o8.alloc (.cells #[.int .i64 4611686018427387904, .int .i64 (-4611686018427387904), .int .i64 4611686018427387905, .int .i64 (-9223372036854775808)] 2)).up 2).up 2
        go_wp2_with fail
        refine (next_spec W cb (N + 7) 4 _ _ (by omega) (by omega) (by omega) oB).mono ?_
        rintro e9 w9 ⟨z, hz0, hz1, rfl, o9, k9⟩
        obtain ⟨j, rfl⟩ : ∃ j : Nat, z = (j : Int) := ⟨z.toNat, by omega⟩
        obtain ⟨q, hq⟩ : ∃ q : Int, ([.int .i64 4611686018427387904, .int .i64 (-4611686018427387904), .int .i64 4611686018427387905, .int .i64 (-9223372036854775808)] : List Value)[j]? = some (.int .i64 q) := by
          have : j = 0 ∨ j = 1 ∨ j = 2 ∨ j = 3 := by omega
          rcases this with rfl | rfl | rfl | rfl <;> exact ⟨_, rfl⟩
        have c4 := Own.cell (T := 2) (vs := [.int .i64 4611686018427387904, .int .i64 (-4611686018427387904), .int .i64 4611686018427387905, .int .i64 (-9223372036854775808)]) (o9.up 2) j hq
        clear hq
        have f3 := (o9.up 3).frozen
        have l3 := (o9.up 3).celLt
        have d3 := (o9.up 3).cell 5
        have oS := (o9.up 3).setCell 5 (.int .i64 q)
        go_wp2
        go_meet
        exact ⟨A, B, C, d, e, q, (oS.re [3, 0, 4, 1, 2] 1), ⟨(K8.trans k9.al).os, (K8.trans k9.al).tape, (K8.trans k9.al).output⟩⟩
      · have hb1' : (y == 1) = false := by simpa using h1
        by_cases h2 : y = 2
        · subst h2
          have oB := ((o8.alloc (.cells #[.int .i64 16384, .int .i64 16385, .int .i64 (-1)] 3)).up 2).up 2
          go_wp2_with fail
          refine (next_spec W cb (N + 7) 3 _ _ (by omega) (by omega) (by omega) oB).mono ?_
          rintro e9 w9 ⟨z, hz0, hz1, rfl, o9, k9⟩
          obtain ⟨j, rfl⟩ : ∃ j : Nat, z = (j : Int) := ⟨z.toNat, by omega⟩
          obtain ⟨q, hq⟩ : ∃ q : Int, ([.int .i64 16384, .int .i64 16385, .int .i64 (-1)] : List Value)[j]? = some (.int .i64 q) := by
            have : j = 0 ∨ j = 1 ∨ j = 2 := by omega
            rcases this with rfl | rfl | rfl <;> exact ⟨_, rfl⟩
          have c4 := Own.cell (T := 3) (vs := [.int .i64 16384, .int .i64 16385, .int .i64 (-1)]) (o9.up 2) j hq
          clear hq
          have f3 := (o9.up 3).frozen
          have l3 := (o9.up 3).celLt
          have d3 := (o9.up 3).cell 0
          have oS := (o9.up 3).setCell 0 (.int .i64 q)
          go_wp2
          go_meet
          exact ⟨q, B, C, d, e, G, (oS.re [3, 0, 4, 1, 2] 1), ⟨(K8.trans k9.al).os, (K8.trans k9.al).tape, (K8.trans k9.al).output⟩⟩
        · have hb2' : (y == 2) = false := by simpa using h2
          by_cases h3 : y = 3
          · subst h3
            have oB := ((o8.alloc (.cells #[.int .i64 (-2), .int .i64 32, .int .i64 31] 3)).up 2).up 2
            go_wp2_with fail
            refine (next_spec W cb (N + 7) 3 _ _ (by omega) (by omega) (by omega) oB).mono ?_
            rintro e9 w9 ⟨z, hz0, hz1, rfl, o9, k9⟩
            obtain ⟨j, rfl⟩ : ∃ j : Nat, z = (j : Int) := ⟨z.toNat, by omega⟩
            obtain ⟨q, hq⟩ : ∃ q : Int, ([.int .i64 (-2), .int .i64 32, .int .i64 31] : List Value)[j]? = some (.int .i64 q) := by
              have : j = 0 ∨ j = 1 ∨ j = 2 := by omega
              rcases this with rfl | rfl | rfl <;> exact ⟨_, rfl⟩
            have c4 := Own.cell (T := 3) (vs := [.int .i64 (-2), .int .i64 32, .int .i64 31]) (o9.up 2) j hq
            clear hq
            have f3 := (o9.up 3).frozen
            have l3 := (o9.up 3).celLt
            have d3 := (o9.up 3).cell 2
            have oS := (o9.up 3).setCell 2 (.int .i64 q)
            go_wp2
            go_meet
            exact ⟨A, B, q, d, e, G, (oS.re [3, 0, 4, 1, 2] 1), ⟨(K8.trans k9.al).os, (K8.trans k9.al).tape, (K8.trans k9.al).output⟩⟩
          · have hb3' : (y == 3) = false := by simpa using h3
            go_wp2
            go_meet
            exact ⟨A, B, C, d, e, G, (Own.re (Ch.upTo (M := N + 8) (by omega) o8) [2, 3, 0, 1]), K8⟩
  case rest =>
    obtain ⟨A, B, C, d, e, G, oM, kM⟩ := hcut
    have c0 := oM.cell 0
    have c1 := oM.cell 1
    have c2 := oM.cell 2
    have c3 := oM.cell 3
    have c4 := oM.cell 4
    have c5 := oM.cell 5
    have f0 := (oM.up 1).frozen
    have l0 := (oM.up 1).celLt
    have e0 := (oM.up 1).cell 0
    have e1 := (oM.up 1).cell 1
    have e2 := (oM.up 1).cell 2
    have e3 := (oM.up 1).cell 3
    have e4 := (oM.up 1).cell 4
    have e5 := (oM.up 1).cell 5
    go_wp2
    (try simp only [Exit.inBlock, Exit.then])
    have oU := oM.re [1, 2, 3, 0]
    have oF : Own _ (cel b0 39 [.int .i64 A, .int .i64 B, .int .i64 C, .int .i64 d, .int .i64 e, .int .i64 G] :: Ch W cb (N + 8) :: old W :: cel b3 39 [.int .i64 A, .int .i64 B, .int .i64 C, .int .i64 d, .int .i64 e, .int .i64 G] :: R) := (((((oU.setCell 0 (.int .i64 A)).setCell 1 (.int .i64 B)).setCell 2 (.int .i64 C)).setCell 3 (.int .i64 d)).setCell 4 (.int .i64 e)).setCell 5 (.int .i64 G)
    have hres := gr_result oF
    have oE := oF.re [3, 0, 1, 2] 2
    refine bodyPost_ret (v := recV ⟨A, B, C, d, e, G⟩) (hres _ rfl) rfl ?_
    exact ⟨⟨A, B, C, d, e, G⟩, rfl, oE, calm_set (calm_set (calm_set (calm_set (calm_set (calm_set kM)))))⟩
end
end Go.Proofs.YtlccalkikjfimaaGreatDoor
