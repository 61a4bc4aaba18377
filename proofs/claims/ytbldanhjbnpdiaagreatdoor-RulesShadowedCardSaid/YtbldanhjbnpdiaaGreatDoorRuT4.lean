/- Rules: refMatches_spec (printed by gencov.py). -/
import Derived.Test.YtbldanhjbnpdiaaGreatDoorRuT
namespace Go.Proofs.YtbldanhjbnpdiaaGreatDoor
open Go.RowKit
open Go.Shelf
open SP
section
variable {W w w' : World} {R : List SP}

set_option maxHeartbeats 25600000 in
set_option maxRecDepth 100000 in
theorem refMatches_spec (a : Ru) (b : Hd) (ha : a.st.length ≤ 2000000) (hb : b.st.length ≤ 2000000) (hT : TabsW W) (o : Own w (old W :: R)) :
    Calls Tryz.prog 16 #[ruV a, hdV b] w (Ret (.bool (matOK a b)) (old W :: R) w) := by
  have VA := Lib.hid fun (w1 : World) (R1 : List SP) (o1 : Own w1 R1) => refValidRu_spec a ha o1
  have VB := Lib.hid fun (w1 : World) (R1 : List SP) (o1 : Own w1 R1) => refValidHd_spec b hb o1
  have CM := Lib.hid fun (w1 : World) (R1 : List SP) (o1 : Own w1 (old W :: R1)) => ref_cmp (mkB a.st) (mkB b.st) (by rw [mkB_size]; exact ha) (by rw [mkB_size]; exact hb) hT o1
  have hP : matOK a b = (ruOK a && hdOK b && (decide (a.st = []) || decide (cmpS (mkB a.st) (mkB b.st) = 0)) && (decide (a.cls = -1) || decide (a.cls = b.cls)) && decide (a.first ≤ b.port) && decide (b.port ≤ a.last)) := rfl
  have hcl : ruOK a = true → -1 ≤ a.cls := ruOK_cls
  have hne : ruOK a = true → decide (a.st = []) = false → decide (b.st = []) = true → ¬ cmpS (mkB a.st) (mkB b.st) = 0 := fun h1 h2 h3 => by rw [cmp_empty (ruOK_name h1 (of_decide_eq_false h2)) (of_decide_eq_true h3)]; decide
  have ea := emptyB (mkB a.st)
  have eb := emptyB (mkB b.st)
  rw [mkB_data] at ea eb
  have o1 := (o.alloc (.cells #[.string (mkB a.st), .int .i64 a.cls, .int .i64 a.first, .int .i64 a.last, .int .i64 a.flow] 24)).alloc (.cells #[.string (mkB b.st), .int .i64 b.cls, .int .i64 b.port, .int .i64 b.len, .int .i64 b.life] 29)
  simp only [World.size_alloc] at o1
  unfold ruV at VA ⊢
  unfold hdV at VB ⊢
  generalize ruOK a = za at *
  generalize hdOK b = zb at *
  generalize cmpS (mkB a.st) (mkB b.st) = cm at *
  generalize decide (a.st = []) = em at *
  generalize decide (b.st = []) = en at *
  generalize mkB a.st = SA at *
  generalize mkB b.st = SB at *
  generalize a.cls = ca at *
  generalize a.first = fa at *
  generalize a.last = la at *
  generalize a.flow = ya at *
  generalize b.cls = cb at *
  generalize b.port = pb at *
  generalize b.len = nb at *
  generalize b.life = yb at *
  have HNE := Lib.hid hne
  clear hne
  cases za with
  | false =>
    have HV := Lib.hid (hP.trans (show _ = false by simp))
    clear hP hcl
    go_enter Tryz.func16, Tryz.ntmps16
    go_wp2_with fail
    refine (VA.out _ _ o1).mono ?_
    rintro e1 w1 ⟨rfl, o2, k2⟩
    have k2 := k2.al.al
    go_wp2
    go_ret
    exact ⟨by rw [HV.out]; rfl, (o2.drop.drop), k2⟩
  | true =>
  cases zb with
  | false =>
    have HV := Lib.hid (hP.trans (show _ = false by simp))
    clear hP hcl
    go_enter Tryz.func16, Tryz.ntmps16
    go_wp2_with fail
    refine (VA.out _ _ o1).mono ?_
    rintro e1 w1 ⟨rfl, o2, k2⟩
    have k2 := k2.al.al
    have p0 := o2.cell 0
    have p1 := o2.cell 1
    have p2 := o2.cell 2
    have p3 := o2.cell 3
    have p4 := o2.cell 4
    have q0 := (o2.up 1).cell 0
    have q1 := (o2.up 1).cell 1
    have q2 := (o2.up 1).cell 2
    have q3 := (o2.up 1).cell 3
    have q4 := (o2.up 1).cell 4
    go_wp2_with fail
    refine (VB.out _ _ o2).mono ?_
    rintro e2 w2 ⟨rfl, o3, k3⟩
    have K3 := k2.trans k3
    clear p0 p1 p2 p3 p4 q0 q1 q2 q3 q4
    go_wp2
    go_ret
    exact ⟨by rw [HV.out]; rfl, (o3.drop.drop), K3⟩
  | true =>
  have hc1 := hcl rfl
  clear hcl
  cases em with
  | true =>
    by_cases g1 : ca = -1
    · have f1 : decide (ca < 0) = true := decide_eq_true (by omega)
      by_cases g3 : fa ≤ pb
      rotate_left
      · have d3 := decide_eq_false g3
        have HV := Lib.hid (hP.trans (show _ = false by simp [g1, g3]))
        clear hP g1 g3
        go_enter Tryz.func16, Tryz.ntmps16
        go_wp2_with fail
        refine (VA.out _ _ o1).mono ?_
        rintro e1 w1 ⟨rfl, o2, k2⟩
        have k2 := k2.al.al
        have p0 := o2.cell 0
        have p1 := o2.cell 1
        have p2 := o2.cell 2
        have p3 := o2.cell 3
        have p4 := o2.cell 4
        have q0 := (o2.up 1).cell 0
        have q1 := (o2.up 1).cell 1
        have q2 := (o2.up 1).cell 2
        have q3 := (o2.up 1).cell 3
        have q4 := (o2.up 1).cell 4
        go_wp2_with fail
        refine (VB.out _ _ o2).mono ?_
        rintro e2 w2 ⟨rfl, o3, k3⟩
        have K3 := k2.trans k3
        clear p0 p1 p2 p3 p4 q0 q1 q2 q3 q4
        have p0 := o3.cell 0
        have p1 := o3.cell 1
        have p2 := o3.cell 2
        have p3 := o3.cell 3
        have p4 := o3.cell 4
        have q0 := (o3.up 1).cell 0
        have q1 := (o3.up 1).cell 1
        have q2 := (o3.up 1).cell 2
        have q3 := (o3.up 1).cell 3
        have q4 := (o3.up 1).cell 4
        go_wp2
        go_ret
        exact ⟨by rw [HV.out]; rfl, (o3.drop.drop), K3⟩
      have d3 := decide_eq_true g3
      by_cases g4 : pb ≤ la
      rotate_left
      · have d4 := decide_eq_false g4
        have HV := Lib.hid (hP.trans (show _ = false by simp [g1, g3, g4]))
        clear hP g1 g3 g4
        go_enter Tryz.func16, Tryz.ntmps16
        go_wp2_with fail
        refine (VA.out _ _ o1).mono ?_
        rintro e1 w1 ⟨rfl, o2, k2⟩
        have k2 := k2.al.al
        have p0 := o2.cell 0
        have p1 := o2.cell 1
        have p2 := o2.cell 2
        have p3 := o2.cell 3
        have p4 := o2.cell 4
        have q0 := (o2.up 1).cell 0
        have q1 := (o2.up 1).cell 1
        have q2 := (o2.up 1).cell 2
        have q3 := (o2.up 1).cell 3
        have q4 := (o2.up 1).cell 4
        go_wp2_with fail
        refine (VB.out _ _ o2).mono ?_
        rintro e2 w2 ⟨rfl, o3, k3⟩
        have K3 := k2.trans k3
        clear p0 p1 p2 p3 p4 q0 q1 q2 q3 q4
        have p0 := o3.cell 0
        have p1 := o3.cell 1
        have p2 := o3.cell 2
        have p3 := o3.cell 3
        have p4 := o3.cell 4
        have q0 := (o3.up 1).cell 0
        have q1 := (o3.up 1).cell 1
        have q2 := (o3.up 1).cell 2
        have q3 := (o3.up 1).cell 3
        have q4 := (o3.up 1).cell 4
        go_wp2
        go_ret
        exact ⟨by rw [HV.out]; rfl, (o3.drop.drop), K3⟩
      have d4 := decide_eq_true g4
      have HV := Lib.hid (hP.trans (show _ = true by simp [g1, g3, g4]))
      clear hP g1 g3 g4
      go_enter Tryz.func16, Tryz.ntmps16
      go_wp2_with fail
      refine (VA.out _ _ o1).mono ?_
      rintro e1 w1 ⟨rfl, o2, k2⟩
      have k2 := k2.al.al
      have p0 := o2.cell 0
      have p1 := o2.cell 1
      have p2 := o2.cell 2
      have p3 := o2.cell 3
      have p4 := o2.cell 4
      have q0 := (o2.up 1).cell 0
      have q1 := (o2.up 1).cell 1
      have q2 := (o2.up 1).cell 2
      have q3 := (o2.up 1).cell 3
      have q4 := (o2.up 1).cell 4
      go_wp2_with fail
      refine (VB.out _ _ o2).mono ?_
      rintro e2 w2 ⟨rfl, o3, k3⟩
      have K3 := k2.trans k3
      clear p0 p1 p2 p3 p4 q0 q1 q2 q3 q4
      have p0 := o3.cell 0
      have p1 := o3.cell 1
      have p2 := o3.cell 2
      have p3 := o3.cell 3
      have p4 := o3.cell 4
      have q0 := (o3.up 1).cell 0
      have q1 := (o3.up 1).cell 1
      have q2 := (o3.up 1).cell 2
      have q3 := (o3.up 1).cell 3
      have q4 := (o3.up 1).cell 4
      go_wp2
      go_ret
      exact ⟨by rw [HV.out]; rfl, (o3.drop.drop), K3⟩
    · have f1 : decide (ca < 0) = false := decide_eq_false (by omega)
      by_cases g2 : ca = cb
      · have f2 : (ca == cb) = true := beq_iff_eq.2 g2
        subst g2
        by_cases g3 : fa ≤ pb
        rotate_left
        · have d3 := decide_eq_false g3
          have HV := Lib.hid (hP.trans (show _ = false by simp [g1, g3]))
          clear hP g1 g3
          go_enter Tryz.func16, Tryz.ntmps16
          go_wp2_with fail
          refine (VA.out _ _ o1).mono ?_
          rintro e1 w1 ⟨rfl, o2, k2⟩
          have k2 := k2.al.al
          have p0 := o2.cell 0
          have p1 := o2.cell 1
          have p2 := o2.cell 2
          have p3 := o2.cell 3
          have p4 := o2.cell 4
          have q0 := (o2.up 1).cell 0
          have q1 := (o2.up 1).cell 1
          have q2 := (o2.up 1).cell 2
          have q3 := (o2.up 1).cell 3
          have q4 := (o2.up 1).cell 4
          go_wp2_with fail
          refine (VB.out _ _ o2).mono ?_
          rintro e2 w2 ⟨rfl, o3, k3⟩
          have K3 := k2.trans k3
          clear p0 p1 p2 p3 p4 q0 q1 q2 q3 q4
          have p0 := o3.cell 0
          have p1 := o3.cell 1
          have p2 := o3.cell 2
          have p3 := o3.cell 3
          have p4 := o3.cell 4
          have q0 := (o3.up 1).cell 0
          have q1 := (o3.up 1).cell 1
          have q2 := (o3.up 1).cell 2
          have q3 := (o3.up 1).cell 3
          have q4 := (o3.up 1).cell 4
          go_wp2
          go_ret
          exact ⟨by rw [HV.out]; rfl, (o3.drop.drop), K3⟩
        have d3 := decide_eq_true g3
        by_cases g4 : pb ≤ la
        rotate_left
        · have d4 := decide_eq_false g4
          have HV := Lib.hid (hP.trans (show _ = false by simp [g1, g3, g4]))
          clear hP g1 g3 g4
          go_enter Tryz.func16, Tryz.ntmps16
          go_wp2_with fail
          refine (VA.out _ _ o1).mono ?_
          rintro e1 w1 ⟨rfl, o2, k2⟩
          have k2 := k2.al.al
          have p0 := o2.cell 0
          have p1 := o2.cell 1
          have p2 := o2.cell 2
          have p3 := o2.cell 3
          have p4 := o2.cell 4
          have q0 := (o2.up 1).cell 0
          have q1 := (o2.up 1).cell 1
          have q2 := (o2.up 1).cell 2
          have q3 := (o2.up 1).cell 3
          have q4 := (o2.up 1).cell 4
          go_wp2_with fail
          refine (VB.out _ _ o2).mono ?_
          rintro e2 w2 ⟨rfl, o3, k3⟩
          have K3 := k2.trans k3
          clear p0 p1 p2 p3 p4 q0 q1 q2 q3 q4
          have p0 := o3.cell 0
          have p1 := o3.cell 1
          have p2 := o3.cell 2
          have p3 := o3.cell 3
          have p4 := o3.cell 4
          have q0 := (o3.up 1).cell 0
          have q1 := (o3.up 1).cell 1
          have q2 := (o3.up 1).cell 2
          have q3 := (o3.up 1).cell 3
          have q4 := (o3.up 1).cell 4
          go_wp2
          go_ret
          exact ⟨by rw [HV.out]; rfl, (o3.drop.drop), K3⟩
        have d4 := decide_eq_true g4
        have HV := Lib.hid (hP.trans (show _ = true by simp [g1, g3, g4]))
        clear hP g1 g3 g4
        go_enter Tryz.func16, Tryz.ntmps16
        go_wp2_with fail
        refine (VA.out _ _ o1).mono ?_
        rintro e1 w1 ⟨rfl, o2, k2⟩
        have k2 := k2.al.al
        have p0 := o2.cell 0
        have p1 := o2.cell 1
        have p2 := o2.cell 2
        have p3 := o2.cell 3
        have p4 := o2.cell 4
        have q0 := (o2.up 1).cell 0
        have q1 := (o2.up 1).cell 1
        have q2 := (o2.up 1).cell 2
        have q3 := (o2.up 1).cell 3
        have q4 := (o2.up 1).cell 4
        go_wp2_with fail
        refine (VB.out _ _ o2).mono ?_
        rintro e2 w2 ⟨rfl, o3, k3⟩
        have K3 := k2.trans k3
        clear p0 p1 p2 p3 p4 q0 q1 q2 q3 q4
        have p0 := o3.cell 0
        have p1 := o3.cell 1
        have p2 := o3.cell 2
        have p3 := o3.cell 3
        have p4 := o3.cell 4
        have q0 := (o3.up 1).cell 0
        have q1 := (o3.up 1).cell 1
        have q2 := (o3.up 1).cell 2
        have q3 := (o3.up 1).cell 3
        have q4 := (o3.up 1).cell 4
        go_wp2
        go_ret
        exact ⟨by rw [HV.out]; rfl, (o3.drop.drop), K3⟩
      · have f2 : (ca == cb) = false := beq_eq_false_iff_ne.2 g2
        have HV := Lib.hid (hP.trans (show _ = false by simp [g1, g2]))
        clear hP g1 g2
        go_enter Tryz.func16, Tryz.ntmps16
        go_wp2_with fail
        refine (VA.out _ _ o1).mono ?_
        rintro e1 w1 ⟨rfl, o2, k2⟩
        have k2 := k2.al.al
        have p0 := o2.cell 0
        have p1 := o2.cell 1
        have p2 := o2.cell 2
        have p3 := o2.cell 3
        have p4 := o2.cell 4
        have q0 := (o2.up 1).cell 0
        have q1 := (o2.up 1).cell 1
        have q2 := (o2.up 1).cell 2
        have q3 := (o2.up 1).cell 3
        have q4 := (o2.up 1).cell 4
        go_wp2_with fail
        refine (VB.out _ _ o2).mono ?_
        rintro e2 w2 ⟨rfl, o3, k3⟩
        have K3 := k2.trans k3
        clear p0 p1 p2 p3 p4 q0 q1 q2 q3 q4
        have p0 := o3.cell 0
        have p1 := o3.cell 1
        have p2 := o3.cell 2
        have p3 := o3.cell 3
        have p4 := o3.cell 4
        have q0 := (o3.up 1).cell 0
        have q1 := (o3.up 1).cell 1
        have q2 := (o3.up 1).cell 2
        have q3 := (o3.up 1).cell 3
        have q4 := (o3.up 1).cell 4
        go_wp2
        go_ret
        exact ⟨by rw [HV.out]; rfl, (o3.drop.drop), K3⟩
  | false =>
    by_cases hcm : cm = 0
    rotate_left
    · have HV := Lib.hid (hP.trans (show _ = false by simp [hcm]))
      have ec : (cm == 0) = false := beq_eq_false_iff_ne.2 hcm
      clear hP hcm
      go_enter Tryz.func16, Tryz.ntmps16
      go_wp2_with fail
      refine (VA.out _ _ o1).mono ?_
      rintro e1 w1 ⟨rfl, o2, k2⟩
      have k2 := k2.al.al
      have p0 := o2.cell 0
      have p1 := o2.cell 1
      have p2 := o2.cell 2
      have p3 := o2.cell 3
      have p4 := o2.cell 4
      have q0 := (o2.up 1).cell 0
      have q1 := (o2.up 1).cell 1
      have q2 := (o2.up 1).cell 2
      have q3 := (o2.up 1).cell 3
      have q4 := (o2.up 1).cell 4
      go_wp2_with fail
      refine (VB.out _ _ o2).mono ?_
      rintro e2 w2 ⟨rfl, o3, k3⟩
      have K3 := k2.trans k3
      clear p0 p1 p2 p3 p4 q0 q1 q2 q3 q4
      have p0 := o3.cell 0
      have p1 := o3.cell 1
      have p2 := o3.cell 2
      have p3 := o3.cell 3
      have p4 := o3.cell 4
      have q0 := (o3.up 1).cell 0
      have q1 := (o3.up 1).cell 1
      have q2 := (o3.up 1).cell 2
      have q3 := (o3.up 1).cell 3
      have q4 := (o3.up 1).cell 4
      go_wp2_with fail
      refine (CM.out _ _ (o3.up 2)).mono ?_
      rintro e3 w3 ⟨rfl, o4, k4⟩
      have o5 := o4.re [1, 2]
      have K5 := K3.trans k4
      clear p0 p1 p2 p3 p4 q0 q1 q2 q3 q4
      go_wp2
      go_ret
      exact ⟨by rw [HV.out]; rfl, (o5.drop.drop), K5⟩
    have ec : (cm == 0) = true := beq_iff_eq.2 hcm
    by_cases g1 : ca = -1
    · have f1 : decide (ca < 0) = true := decide_eq_true (by omega)
      by_cases g3 : fa ≤ pb
      rotate_left
      · have d3 := decide_eq_false g3
        have HV := Lib.hid (hP.trans (show _ = false by simp [hcm, g1, g3]))
        clear hP hcm g1 g3
        go_enter Tryz.func16, Tryz.ntmps16
        go_wp2_with fail
        refine (VA.out _ _ o1).mono ?_
        rintro e1 w1 ⟨rfl, o2, k2⟩
        have k2 := k2.al.al
        have p0 := o2.cell 0
        have p1 := o2.cell 1
        have p2 := o2.cell 2
        have p3 := o2.cell 3
        have p4 := o2.cell 4
        have q0 := (o2.up 1).cell 0
        have q1 := (o2.up 1).cell 1
        have q2 := (o2.up 1).cell 2
        have q3 := (o2.up 1).cell 3
        have q4 := (o2.up 1).cell 4
        go_wp2_with fail
        refine (VB.out _ _ o2).mono ?_
        rintro e2 w2 ⟨rfl, o3, k3⟩
        have K3 := k2.trans k3
        clear p0 p1 p2 p3 p4 q0 q1 q2 q3 q4
        have p0 := o3.cell 0
        have p1 := o3.cell 1
        have p2 := o3.cell 2
        have p3 := o3.cell 3
        have p4 := o3.cell 4
        have q0 := (o3.up 1).cell 0
        have q1 := (o3.up 1).cell 1
        have q2 := (o3.up 1).cell 2
        have q3 := (o3.up 1).cell 3
        have q4 := (o3.up 1).cell 4
        go_wp2_with fail
        refine (CM.out _ _ (o3.up 2)).mono ?_
        rintro e3 w3 ⟨rfl, o4, k4⟩
        have o5 := o4.re [1, 2]
        have K5 := K3.trans k4
        clear p0 p1 p2 p3 p4 q0 q1 q2 q3 q4
        have p0 := o5.cell 0
        have p1 := o5.cell 1
        have p2 := o5.cell 2
        have p3 := o5.cell 3
        have p4 := o5.cell 4
        have q0 := (o5.up 1).cell 0
        have q1 := (o5.up 1).cell 1
        have q2 := (o5.up 1).cell 2
        have q3 := (o5.up 1).cell 3
        have q4 := (o5.up 1).cell 4
        go_wp2
        go_ret
        exact ⟨by rw [HV.out]; rfl, (o5.drop.drop), K5⟩
      have d3 := decide_eq_true g3
      by_cases g4 : pb ≤ la
      rotate_left
      · have d4 := decide_eq_false g4
        have HV := Lib.hid (hP.trans (show _ = false by simp [hcm, g1, g3, g4]))
        clear hP hcm g1 g3 g4
        go_enter Tryz.func16, Tryz.ntmps16
        go_wp2_with fail
        refine (VA.out _ _ o1).mono ?_
        rintro e1 w1 ⟨rfl, o2, k2⟩
        have k2 := k2.al.al
        have p0 := o2.cell 0
        have p1 := o2.cell 1
        have p2 := o2.cell 2
        have p3 := o2.cell 3
        have p4 := o2.cell 4
        have q0 := (o2.up 1).cell 0
        have q1 := (o2.up 1).cell 1
        have q2 := (o2.up 1).cell 2
        have q3 := (o2.up 1).cell 3
        have q4 := (o2.up 1).cell 4
        go_wp2_with fail
        refine (VB.out _ _ o2).mono ?_
        rintro e2 w2 ⟨rfl, o3, k3⟩
        have K3 := k2.trans k3
        clear p0 p1 p2 p3 p4 q0 q1 q2 q3 q4
        have p0 := o3.cell 0
        have p1 := o3.cell 1
        have p2 := o3.cell 2
        have p3 := o3.cell 3
        have p4 := o3.cell 4
        have q0 := (o3.up 1).cell 0
        have q1 := (o3.up 1).cell 1
        have q2 := (o3.up 1).cell 2
        have q3 := (o3.up 1).cell 3
        have q4 := (o3.up 1).cell 4
        go_wp2_with fail
        refine (CM.out _ _ (o3.up 2)).mono ?_
        rintro e3 w3 ⟨rfl, o4, k4⟩
        have o5 := o4.re [1, 2]
        have K5 := K3.trans k4
        clear p0 p1 p2 p3 p4 q0 q1 q2 q3 q4
        have p0 := o5.cell 0
        have p1 := o5.cell 1
        have p2 := o5.cell 2
        have p3 := o5.cell 3
        have p4 := o5.cell 4
        have q0 := (o5.up 1).cell 0
        have q1 := (o5.up 1).cell 1
        have q2 := (o5.up 1).cell 2
        have q3 := (o5.up 1).cell 3
        have q4 := (o5.up 1).cell 4
        go_wp2
        go_ret
        exact ⟨by rw [HV.out]; rfl, (o5.drop.drop), K5⟩
      have d4 := decide_eq_true g4
      have HV := Lib.hid (hP.trans (show _ = true by simp [hcm, g1, g3, g4]))
      clear hP hcm g1 g3 g4
      go_enter Tryz.func16, Tryz.ntmps16
      go_wp2_with fail
      refine (VA.out _ _ o1).mono ?_
      rintro e1 w1 ⟨rfl, o2, k2⟩
      have k2 := k2.al.al
      have p0 := o2.cell 0
      have p1 := o2.cell 1
      have p2 := o2.cell 2
      have p3 := o2.cell 3
      have p4 := o2.cell 4
      have q0 := (o2.up 1).cell 0
      have q1 := (o2.up 1).cell 1
      have q2 := (o2.up 1).cell 2
      have q3 := (o2.up 1).cell 3
      have q4 := (o2.up 1).cell 4
      go_wp2_with fail
      refine (VB.out _ _ o2).mono ?_
      rintro e2 w2 ⟨rfl, o3, k3⟩
      have K3 := k2.trans k3
      clear p0 p1 p2 p3 p4 q0 q1 q2 q3 q4
      have p0 := o3.cell 0
      have p1 := o3.cell 1
      have p2 := o3.cell 2
      have p3 := o3.cell 3
      have p4 := o3.cell 4
      have q0 := (o3.up 1).cell 0
      have q1 := (o3.up 1).cell 1
      have q2 := (o3.up 1).cell 2
      have q3 := (o3.up 1).cell 3
      have q4 := (o3.up 1).cell 4
      go_wp2_with fail
      refine (CM.out _ _ (o3.up 2)).mono ?_
      rintro e3 w3 ⟨rfl, o4, k4⟩
      have o5 := o4.re [1, 2]
      have K5 := K3.trans k4
      clear p0 p1 p2 p3 p4 q0 q1 q2 q3 q4
      have p0 := o5.cell 0
      have p1 := o5.cell 1
      have p2 := o5.cell 2
      have p3 := o5.cell 3
      have p4 := o5.cell 4
      have q0 := (o5.up 1).cell 0
      have q1 := (o5.up 1).cell 1
      have q2 := (o5.up 1).cell 2
      have q3 := (o5.up 1).cell 3
      have q4 := (o5.up 1).cell 4
      go_wp2
      go_ret
      exact ⟨by rw [HV.out]; rfl, (o5.drop.drop), K5⟩
    · have f1 : decide (ca < 0) = false := decide_eq_false (by omega)
      by_cases g2 : ca = cb
      · have f2 : (ca == cb) = true := beq_iff_eq.2 g2
        subst g2
        by_cases g3 : fa ≤ pb
        rotate_left
        · have d3 := decide_eq_false g3
          have HV := Lib.hid (hP.trans (show _ = false by simp [hcm, g1, g3]))
          clear hP hcm g1 g3
          go_enter Tryz.func16, Tryz.ntmps16
          go_wp2_with fail
          refine (VA.out _ _ o1).mono ?_
          rintro e1 w1 ⟨rfl, o2, k2⟩
          have k2 := k2.al.al
          have p0 := o2.cell 0
          have p1 := o2.cell 1
          have p2 := o2.cell 2
          have p3 := o2.cell 3
          have p4 := o2.cell 4
          have q0 := (o2.up 1).cell 0
          have q1 := (o2.up 1).cell 1
          have q2 := (o2.up 1).cell 2
          have q3 := (o2.up 1).cell 3
          have q4 := (o2.up 1).cell 4
          go_wp2_with fail
          refine (VB.out _ _ o2).mono ?_
          rintro e2 w2 ⟨rfl, o3, k3⟩
          have K3 := k2.trans k3
          clear p0 p1 p2 p3 p4 q0 q1 q2 q3 q4
          have p0 := o3.cell 0
          have p1 := o3.cell 1
          have p2 := o3.cell 2
          have p3 := o3.cell 3
          have p4 := o3.cell 4
          have q0 := (o3.up 1).cell 0
          have q1 := (o3.up 1).cell 1
          have q2 := (o3.up 1).cell 2
          have q3 := (o3.up 1).cell 3
          have q4 := (o3.up 1).cell 4
          go_wp2_with fail
          refine (CM.out _ _ (o3.up 2)).mono ?_
          rintro e3 w3 ⟨rfl, o4, k4⟩
          have o5 := o4.re [1, 2]
          have K5 := K3.trans k4
          clear p0 p1 p2 p3 p4 q0 q1 q2 q3 q4
          have p0 := o5.cell 0
          have p1 := o5.cell 1
          have p2 := o5.cell 2
          have p3 := o5.cell 3
          have p4 := o5.cell 4
          have q0 := (o5.up 1).cell 0
          have q1 := (o5.up 1).cell 1
          have q2 := (o5.up 1).cell 2
          have q3 := (o5.up 1).cell 3
          have q4 := (o5.up 1).cell 4
          go_wp2
          go_ret
          exact ⟨by rw [HV.out]; rfl, (o5.drop.drop), K5⟩
        have d3 := decide_eq_true g3
        by_cases g4 : pb ≤ la
        rotate_left
        · have d4 := decide_eq_false g4
          have HV := Lib.hid (hP.trans (show _ = false by simp [hcm, g1, g3, g4]))
          clear hP hcm g1 g3 g4
          go_enter Tryz.func16, Tryz.ntmps16
          go_wp2_with fail
          refine (VA.out _ _ o1).mono ?_
          rintro e1 w1 ⟨rfl, o2, k2⟩
          have k2 := k2.al.al
          have p0 := o2.cell 0
          have p1 := o2.cell 1
          have p2 := o2.cell 2
          have p3 := o2.cell 3
          have p4 := o2.cell 4
          have q0 := (o2.up 1).cell 0
          have q1 := (o2.up 1).cell 1
          have q2 := (o2.up 1).cell 2
          have q3 := (o2.up 1).cell 3
          have q4 := (o2.up 1).cell 4
          go_wp2_with fail
          refine (VB.out _ _ o2).mono ?_
          rintro e2 w2 ⟨rfl, o3, k3⟩
          have K3 := k2.trans k3
          clear p0 p1 p2 p3 p4 q0 q1 q2 q3 q4
          have p0 := o3.cell 0
          have p1 := o3.cell 1
          have p2 := o3.cell 2
          have p3 := o3.cell 3
          have p4 := o3.cell 4
          have q0 := (o3.up 1).cell 0
          have q1 := (o3.up 1).cell 1
          have q2 := (o3.up 1).cell 2
          have q3 := (o3.up 1).cell 3
          have q4 := (o3.up 1).cell 4
          go_wp2_with fail
          refine (CM.out _ _ (o3.up 2)).mono ?_
          rintro e3 w3 ⟨rfl, o4, k4⟩
          have o5 := o4.re [1, 2]
          have K5 := K3.trans k4
          clear p0 p1 p2 p3 p4 q0 q1 q2 q3 q4
          have p0 := o5.cell 0
          have p1 := o5.cell 1
          have p2 := o5.cell 2
          have p3 := o5.cell 3
          have p4 := o5.cell 4
          have q0 := (o5.up 1).cell 0
          have q1 := (o5.up 1).cell 1
          have q2 := (o5.up 1).cell 2
          have q3 := (o5.up 1).cell 3
          have q4 := (o5.up 1).cell 4
          go_wp2
          go_ret
          exact ⟨by rw [HV.out]; rfl, (o5.drop.drop), K5⟩
        have d4 := decide_eq_true g4
        have HV := Lib.hid (hP.trans (show _ = true by simp [hcm, g1, g3, g4]))
        clear hP hcm g1 g3 g4
        go_enter Tryz.func16, Tryz.ntmps16
        go_wp2_with fail
        refine (VA.out _ _ o1).mono ?_
        rintro e1 w1 ⟨rfl, o2, k2⟩
        have k2 := k2.al.al
        have p0 := o2.cell 0
        have p1 := o2.cell 1
        have p2 := o2.cell 2
        have p3 := o2.cell 3
        have p4 := o2.cell 4
        have q0 := (o2.up 1).cell 0
        have q1 := (o2.up 1).cell 1
        have q2 := (o2.up 1).cell 2
        have q3 := (o2.up 1).cell 3
        have q4 := (o2.up 1).cell 4
        go_wp2_with fail
        refine (VB.out _ _ o2).mono ?_
        rintro e2 w2 ⟨rfl, o3, k3⟩
        have K3 := k2.trans k3
        clear p0 p1 p2 p3 p4 q0 q1 q2 q3 q4
        have p0 := o3.cell 0
        have p1 := o3.cell 1
        have p2 := o3.cell 2
        have p3 := o3.cell 3
        have p4 := o3.cell 4
        have q0 := (o3.up 1).cell 0
        have q1 := (o3.up 1).cell 1
        have q2 := (o3.up 1).cell 2
        have q3 := (o3.up 1).cell 3
        have q4 := (o3.up 1).cell 4
        go_wp2_with fail
        refine (CM.out _ _ (o3.up 2)).mono ?_
        rintro e3 w3 ⟨rfl, o4, k4⟩
        have o5 := o4.re [1, 2]
        have K5 := K3.trans k4
        clear p0 p1 p2 p3 p4 q0 q1 q2 q3 q4
        have p0 := o5.cell 0
        have p1 := o5.cell 1
        have p2 := o5.cell 2
        have p3 := o5.cell 3
        have p4 := o5.cell 4
        have q0 := (o5.up 1).cell 0
        have q1 := (o5.up 1).cell 1
        have q2 := (o5.up 1).cell 2
        have q3 := (o5.up 1).cell 3
        have q4 := (o5.up 1).cell 4
        go_wp2
        go_ret
        exact ⟨by rw [HV.out]; rfl, (o5.drop.drop), K5⟩
      · have f2 : (ca == cb) = false := beq_eq_false_iff_ne.2 g2
        have HV := Lib.hid (hP.trans (show _ = false by simp [hcm, g1, g2]))
        clear hP hcm g1 g2
        go_enter Tryz.func16, Tryz.ntmps16
        go_wp2_with fail
        refine (VA.out _ _ o1).mono ?_
        rintro e1 w1 ⟨rfl, o2, k2⟩
        have k2 := k2.al.al
        have p0 := o2.cell 0
        have p1 := o2.cell 1
        have p2 := o2.cell 2
        have p3 := o2.cell 3
        have p4 := o2.cell 4
        have q0 := (o2.up 1).cell 0
        have q1 := (o2.up 1).cell 1
        have q2 := (o2.up 1).cell 2
        have q3 := (o2.up 1).cell 3
        have q4 := (o2.up 1).cell 4
        go_wp2_with fail
        refine (VB.out _ _ o2).mono ?_
        rintro e2 w2 ⟨rfl, o3, k3⟩
        have K3 := k2.trans k3
        clear p0 p1 p2 p3 p4 q0 q1 q2 q3 q4
        have p0 := o3.cell 0
        have p1 := o3.cell 1
        have p2 := o3.cell 2
        have p3 := o3.cell 3
        have p4 := o3.cell 4
        have q0 := (o3.up 1).cell 0
        have q1 := (o3.up 1).cell 1
        have q2 := (o3.up 1).cell 2
        have q3 := (o3.up 1).cell 3
        have q4 := (o3.up 1).cell 4
        go_wp2_with fail
        refine (CM.out _ _ (o3.up 2)).mono ?_
        rintro e3 w3 ⟨rfl, o4, k4⟩
        have o5 := o4.re [1, 2]
        have K5 := K3.trans k4
        clear p0 p1 p2 p3 p4 q0 q1 q2 q3 q4
        have p0 := o5.cell 0
        have p1 := o5.cell 1
        have p2 := o5.cell 2
        have p3 := o5.cell 3
        have p4 := o5.cell 4
        have q0 := (o5.up 1).cell 0
        have q1 := (o5.up 1).cell 1
        have q2 := (o5.up 1).cell 2
        have q3 := (o5.up 1).cell 3
        have q4 := (o5.up 1).cell 4
        go_wp2
        go_ret
        exact ⟨by rw [HV.out]; rfl, (o5.drop.drop), K5⟩
end
end Go.Proofs.YtbldanhjbnpdiaaGreatDoor
