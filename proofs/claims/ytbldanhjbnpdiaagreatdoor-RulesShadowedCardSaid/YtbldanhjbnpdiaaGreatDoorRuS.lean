/- Headers: Valid of both sides (printed by genvalid2.py). -/
import Derived.Test.YtbldanhjbnpdiaaGreatDoorRuD
namespace Go.Proofs.YtbldanhjbnpdiaaGreatDoor
open Go.RowKit
open Go.Shelf
open SP
section
variable {W w w' : World} {R : List SP}
structure Hd where
  st : List UInt8
  cls : Int
  port : Int
  len : Int
  life : Int
def hdC (r : Hd) : List Value := [.string (mkB r.st), .int .i64 r.cls, .int .i64 r.port, .int .i64 r.len, .int .i64 r.life]
def hdV (r : Hd) : Value := .agg #[.string (mkB r.st), .int .i64 r.cls, .int .i64 r.port, .int .i64 r.len, .int .i64 r.life]
def hdOK (r : Hd) : Bool := nameB r.st && decide (0 ≤ r.cls ∧ r.cls ≤ 7 ∧ 0 ≤ r.port ∧ r.port ≤ 65535 ∧ 1 ≤ r.len ∧ r.len ≤ 4096 ∧ 0 ≤ r.life ∧ r.life ≤ 65535)
theorem hdOK_no {r : Hd} (h : ¬ (0 ≤ r.cls ∧ r.cls ≤ 7 ∧ 0 ≤ r.port ∧ r.port ≤ 65535 ∧ 1 ≤ r.len ∧ r.len ≤ 4096 ∧ 0 ≤ r.life ∧ r.life ≤ 65535)) : hdOK r = false := by unfold hdOK; rw [decide_eq_false h, Bool.and_false]
theorem hdOK_bad {r : Hd} (h2 : nameB r.st = false) : hdOK r = false := by unfold hdOK; rw [h2]; rfl
theorem hdOK_good {r : Hd} (h1 : nameB r.st = true) (h : 0 ≤ r.cls ∧ r.cls ≤ 7 ∧ 0 ≤ r.port ∧ r.port ≤ 65535 ∧ 1 ≤ r.len ∧ r.len ≤ 4096 ∧ 0 ≤ r.life ∧ r.life ≤ 65535) : hdOK r = true := by
  unfold hdOK
  rw [decide_eq_true h, Bool.and_true, h1]

set_option maxHeartbeats 6400000 in
set_option maxRecDepth 100000 in
theorem hdValid_spec (r : Hd) (hs : r.st.length ≤ 2000000) (o : Own w R) : Calls Tryz.prog 27 #[hdV r] w (Ret (.bool (hdOK r)) R w) := by
  obtain ⟨st, c, p, n, y⟩ := r
  have H1 := Lib.hid fun (w1 : World) (R1 : List SP) (o1 : Own w1 R1) => label_valid (mkB st) (by rw [mkB_size]; exact hs) o1
  rw [mkB_data] at H1
  unfold hdV
  dsimp only
  have o1 := o.alloc (.cells #[.string (mkB st), .int .i64 c, .int .i64 p, .int .i64 n, .int .i64 y] 29)
  generalize mkB st = B at *
  cases hnb : nameB st with
  | false =>
    have HV := Lib.hid (hdOK_bad (r := ⟨st, c, p, n, y⟩) hnb)
    rw [hnb] at H1
    clear hnb
    go_enter Tryz.func27, Tryz.ntmps27
    go_wp2_with fail
    refine (H1.out _ _ o1).mono ?_
    rintro e2 w2 ⟨rfl, o2, k2⟩
    go_wp2
    go_ret
    exact ⟨by rw [HV.out]; rfl, o2.drop, k2.al⟩
  | true =>
    rw [hnb] at H1
    by_cases g0 : 0 ≤ c
    rotate_left
    · have HV := Lib.hid (hdOK_no (r := ⟨st, c, p, n, y⟩) fun h => g0 h.1)
      have d0 := decide_eq_false g0
      clear g0 hnb
      go_enter Tryz.func27, Tryz.ntmps27
      go_wp2_with fail
      refine (H1.out _ _ o1).mono ?_
      rintro e2 w2 ⟨rfl, o2, k2⟩
      have q1 := o2.cell 1
      have q2 := o2.cell 2
      have q3 := o2.cell 3
      have q4 := o2.cell 4
      go_wp2
      go_ret
      exact ⟨by rw [HV.out]; rfl, o2.drop, k2.al⟩
    by_cases g1 : c ≤ 7
    rotate_left
    · have HV := Lib.hid (hdOK_no (r := ⟨st, c, p, n, y⟩) fun h => g1 h.2.1)
      have d0 := decide_eq_true g0
      have d1 := decide_eq_false g1
      clear g0 g1 hnb
      go_enter Tryz.func27, Tryz.ntmps27
      go_wp2_with fail
      refine (H1.out _ _ o1).mono ?_
      rintro e2 w2 ⟨rfl, o2, k2⟩
      have q1 := o2.cell 1
      have q2 := o2.cell 2
      have q3 := o2.cell 3
      have q4 := o2.cell 4
      go_wp2
      go_ret
      exact ⟨by rw [HV.out]; rfl, o2.drop, k2.al⟩
    by_cases g2 : 0 ≤ p
    rotate_left
    · have HV := Lib.hid (hdOK_no (r := ⟨st, c, p, n, y⟩) fun h => g2 h.2.2.1)
      have d0 := decide_eq_true g0
      have d1 := decide_eq_true g1
      have d2 := decide_eq_false g2
      clear g0 g1 g2 hnb
      go_enter Tryz.func27, Tryz.ntmps27
      go_wp2_with fail
      refine (H1.out _ _ o1).mono ?_
      rintro e2 w2 ⟨rfl, o2, k2⟩
      have q1 := o2.cell 1
      have q2 := o2.cell 2
      have q3 := o2.cell 3
      have q4 := o2.cell 4
      go_wp2
      go_ret
      exact ⟨by rw [HV.out]; rfl, o2.drop, k2.al⟩
    by_cases g3 : p ≤ 65535
    rotate_left
    · have HV := Lib.hid (hdOK_no (r := ⟨st, c, p, n, y⟩) fun h => g3 h.2.2.2.1)
      have d0 := decide_eq_true g0
      have d1 := decide_eq_true g1
      have d2 := decide_eq_true g2
      have d3 := decide_eq_false g3
      clear g0 g1 g2 g3 hnb
      go_enter Tryz.func27, Tryz.ntmps27
      go_wp2_with fail
      refine (H1.out _ _ o1).mono ?_
      rintro e2 w2 ⟨rfl, o2, k2⟩
      have q1 := o2.cell 1
      have q2 := o2.cell 2
      have q3 := o2.cell 3
      have q4 := o2.cell 4
      go_wp2
      go_ret
      exact ⟨by rw [HV.out]; rfl, o2.drop, k2.al⟩
    by_cases g4 : 1 ≤ n
    rotate_left
    · have HV := Lib.hid (hdOK_no (r := ⟨st, c, p, n, y⟩) fun h => g4 h.2.2.2.2.1)
      have d0 := decide_eq_true g0
      have d1 := decide_eq_true g1
      have d2 := decide_eq_true g2
      have d3 := decide_eq_true g3
      have d4 := decide_eq_false g4
      clear g0 g1 g2 g3 g4 hnb
      go_enter Tryz.func27, Tryz.ntmps27
      go_wp2_with fail
      refine (H1.out _ _ o1).mono ?_
      rintro e2 w2 ⟨rfl, o2, k2⟩
      have q1 := o2.cell 1
      have q2 := o2.cell 2
      have q3 := o2.cell 3
      have q4 := o2.cell 4
      go_wp2
      go_ret
      exact ⟨by rw [HV.out]; rfl, o2.drop, k2.al⟩
    by_cases g5 : n ≤ 4096
    rotate_left
    · have HV := Lib.hid (hdOK_no (r := ⟨st, c, p, n, y⟩) fun h => g5 h.2.2.2.2.2.1)
      have d0 := decide_eq_true g0
      have d1 := decide_eq_true g1
      have d2 := decide_eq_true g2
      have d3 := decide_eq_true g3
      have d4 := decide_eq_true g4
      have d5 := decide_eq_false g5
      clear g0 g1 g2 g3 g4 g5 hnb
      go_enter Tryz.func27, Tryz.ntmps27
      go_wp2_with fail
      refine (H1.out _ _ o1).mono ?_
      rintro e2 w2 ⟨rfl, o2, k2⟩
      have q1 := o2.cell 1
      have q2 := o2.cell 2
      have q3 := o2.cell 3
      have q4 := o2.cell 4
      go_wp2
      go_ret
      exact ⟨by rw [HV.out]; rfl, o2.drop, k2.al⟩
    by_cases g6 : 0 ≤ y
    rotate_left
    · have HV := Lib.hid (hdOK_no (r := ⟨st, c, p, n, y⟩) fun h => g6 h.2.2.2.2.2.2.1)
      have d0 := decide_eq_true g0
      have d1 := decide_eq_true g1
      have d2 := decide_eq_true g2
      have d3 := decide_eq_true g3
      have d4 := decide_eq_true g4
      have d5 := decide_eq_true g5
      have d6 := decide_eq_false g6
      clear g0 g1 g2 g3 g4 g5 g6 hnb
      go_enter Tryz.func27, Tryz.ntmps27
      go_wp2_with fail
      refine (H1.out _ _ o1).mono ?_
      rintro e2 w2 ⟨rfl, o2, k2⟩
      have q1 := o2.cell 1
      have q2 := o2.cell 2
      have q3 := o2.cell 3
      have q4 := o2.cell 4
      go_wp2
      go_ret
      exact ⟨by rw [HV.out]; rfl, o2.drop, k2.al⟩
    by_cases g7 : y ≤ 65535
    rotate_left
    · have HV := Lib.hid (hdOK_no (r := ⟨st, c, p, n, y⟩) fun h => g7 h.2.2.2.2.2.2.2)
      have d0 := decide_eq_true g0
      have d1 := decide_eq_true g1
      have d2 := decide_eq_true g2
      have d3 := decide_eq_true g3
      have d4 := decide_eq_true g4
      have d5 := decide_eq_true g5
      have d6 := decide_eq_true g6
      have d7 := decide_eq_false g7
      clear g0 g1 g2 g3 g4 g5 g6 g7 hnb
      go_enter Tryz.func27, Tryz.ntmps27
      go_wp2_with fail
      refine (H1.out _ _ o1).mono ?_
      rintro e2 w2 ⟨rfl, o2, k2⟩
      have q1 := o2.cell 1
      have q2 := o2.cell 2
      have q3 := o2.cell 3
      have q4 := o2.cell 4
      go_wp2
      go_ret
      exact ⟨by rw [HV.out]; rfl, o2.drop, k2.al⟩
    have good := hdOK_good (r := ⟨st, c, p, n, y⟩) hnb ⟨g0, g1, g2, g3, g4, g5, g6, g7⟩
    have HV := Lib.hid good
    have d0 := decide_eq_true g0
    have d1 := decide_eq_true g1
    have d2 := decide_eq_true g2
    have d3 := decide_eq_true g3
    have d4 := decide_eq_true g4
    have d5 := decide_eq_true g5
    have d6 := decide_eq_true g6
    have d7 := decide_eq_true g7
    clear g0 g1 g2 g3 g4 g5 g6 g7 hnb good
    go_enter Tryz.func27, Tryz.ntmps27
    go_wp2_with fail
    refine (H1.out _ _ o1).mono ?_
    rintro e2 w2 ⟨rfl, o2, k2⟩
    have q1 := o2.cell 1
    have q2 := o2.cell 2
    have q3 := o2.cell 3
    have q4 := o2.cell 4
    go_wp2
    go_ret
    exact ⟨by rw [HV.out]; rfl, o2.drop, k2.al⟩
set_option maxHeartbeats 6400000 in
set_option maxRecDepth 100000 in
theorem refValidHd_spec (r : Hd) (hs : r.st.length ≤ 2000000) (o : Own w R) : Calls Tryz.prog 29 #[hdV r] w (Ret (.bool (hdOK r)) R w) := by
  obtain ⟨st, c, p, n, y⟩ := r
  have H1 := Lib.hid fun (w1 : World) (R1 : List SP) (o1 : Own w1 R1) => validName_spec (mkB st) (by rw [mkB_size]; exact hs) o1
  rw [mkB_data] at H1
  unfold hdV
  dsimp only
  have o1 := o.alloc (.cells #[.string (mkB st), .int .i64 c, .int .i64 p, .int .i64 n, .int .i64 y] 29)
  generalize mkB st = B at *
  cases hnb : nameB st with
  | false =>
    have HV := Lib.hid (hdOK_bad (r := ⟨st, c, p, n, y⟩) hnb)
    rw [hnb] at H1
    clear hnb
    go_enter Tryz.func29, Tryz.ntmps29
    go_wp2_with fail
    refine (H1.out _ _ o1).mono ?_
    rintro e2 w2 ⟨rfl, o2, k2⟩
    go_wp2
    go_ret
    exact ⟨by rw [HV.out]; rfl, o2.drop, k2.al⟩
  | true =>
    rw [hnb] at H1
    by_cases g0 : 0 ≤ c
    rotate_left
    · have HV := Lib.hid (hdOK_no (r := ⟨st, c, p, n, y⟩) fun h => g0 h.1)
      have d0 := decide_eq_false g0
      clear g0 hnb
      go_enter Tryz.func29, Tryz.ntmps29
      go_wp2_with fail
      refine (H1.out _ _ o1).mono ?_
      rintro e2 w2 ⟨rfl, o2, k2⟩
      have q1 := o2.cell 1
      have q2 := o2.cell 2
      have q3 := o2.cell 3
      have q4 := o2.cell 4
      go_wp2
      go_ret
      exact ⟨by rw [HV.out]; rfl, o2.drop, k2.al⟩
    by_cases g1 : c ≤ 7
    rotate_left
    · have HV := Lib.hid (hdOK_no (r := ⟨st, c, p, n, y⟩) fun h => g1 h.2.1)
      have d0 := decide_eq_true g0
      have d1 := decide_eq_false g1
      clear g0 g1 hnb
      go_enter Tryz.func29, Tryz.ntmps29
      go_wp2_with fail
      refine (H1.out _ _ o1).mono ?_
      rintro e2 w2 ⟨rfl, o2, k2⟩
      have q1 := o2.cell 1
      have q2 := o2.cell 2
      have q3 := o2.cell 3
      have q4 := o2.cell 4
      go_wp2
      go_ret
      exact ⟨by rw [HV.out]; rfl, o2.drop, k2.al⟩
    by_cases g2 : 0 ≤ p
    rotate_left
    · have HV := Lib.hid (hdOK_no (r := ⟨st, c, p, n, y⟩) fun h => g2 h.2.2.1)
      have d0 := decide_eq_true g0
      have d1 := decide_eq_true g1
      have d2 := decide_eq_false g2
      clear g0 g1 g2 hnb
      go_enter Tryz.func29, Tryz.ntmps29
      go_wp2_with fail
      refine (H1.out _ _ o1).mono ?_
      rintro e2 w2 ⟨rfl, o2, k2⟩
      have q1 := o2.cell 1
      have q2 := o2.cell 2
      have q3 := o2.cell 3
      have q4 := o2.cell 4
      go_wp2
      go_ret
      exact ⟨by rw [HV.out]; rfl, o2.drop, k2.al⟩
    by_cases g3 : p ≤ 65535
    rotate_left
    · have HV := Lib.hid (hdOK_no (r := ⟨st, c, p, n, y⟩) fun h => g3 h.2.2.2.1)
      have d0 := decide_eq_true g0
      have d1 := decide_eq_true g1
      have d2 := decide_eq_true g2
      have d3 := decide_eq_false g3
      clear g0 g1 g2 g3 hnb
      go_enter Tryz.func29, Tryz.ntmps29
      go_wp2_with fail
      refine (H1.out _ _ o1).mono ?_
      rintro e2 w2 ⟨rfl, o2, k2⟩
      have q1 := o2.cell 1
      have q2 := o2.cell 2
      have q3 := o2.cell 3
      have q4 := o2.cell 4
      go_wp2
      go_ret
      exact ⟨by rw [HV.out]; rfl, o2.drop, k2.al⟩
    by_cases g4 : 1 ≤ n
    rotate_left
    · have HV := Lib.hid (hdOK_no (r := ⟨st, c, p, n, y⟩) fun h => g4 h.2.2.2.2.1)
      have d0 := decide_eq_true g0
      have d1 := decide_eq_true g1
      have d2 := decide_eq_true g2
      have d3 := decide_eq_true g3
      have d4 := decide_eq_false g4
      clear g0 g1 g2 g3 g4 hnb
      go_enter Tryz.func29, Tryz.ntmps29
      go_wp2_with fail
      refine (H1.out _ _ o1).mono ?_
      rintro e2 w2 ⟨rfl, o2, k2⟩
      have q1 := o2.cell 1
      have q2 := o2.cell 2
      have q3 := o2.cell 3
      have q4 := o2.cell 4
      go_wp2
      go_ret
      exact ⟨by rw [HV.out]; rfl, o2.drop, k2.al⟩
    by_cases g5 : n ≤ 4096
    rotate_left
    · have HV := Lib.hid (hdOK_no (r := ⟨st, c, p, n, y⟩) fun h => g5 h.2.2.2.2.2.1)
      have d0 := decide_eq_true g0
      have d1 := decide_eq_true g1
      have d2 := decide_eq_true g2
      have d3 := decide_eq_true g3
      have d4 := decide_eq_true g4
      have d5 := decide_eq_false g5
      clear g0 g1 g2 g3 g4 g5 hnb
      go_enter Tryz.func29, Tryz.ntmps29
      go_wp2_with fail
      refine (H1.out _ _ o1).mono ?_
      rintro e2 w2 ⟨rfl, o2, k2⟩
      have q1 := o2.cell 1
      have q2 := o2.cell 2
      have q3 := o2.cell 3
      have q4 := o2.cell 4
      go_wp2
      go_ret
      exact ⟨by rw [HV.out]; rfl, o2.drop, k2.al⟩
    by_cases g6 : 0 ≤ y
    rotate_left
    · have HV := Lib.hid (hdOK_no (r := ⟨st, c, p, n, y⟩) fun h => g6 h.2.2.2.2.2.2.1)
      have d0 := decide_eq_true g0
      have d1 := decide_eq_true g1
      have d2 := decide_eq_true g2
      have d3 := decide_eq_true g3
      have d4 := decide_eq_true g4
      have d5 := decide_eq_true g5
      have d6 := decide_eq_false g6
      clear g0 g1 g2 g3 g4 g5 g6 hnb
      go_enter Tryz.func29, Tryz.ntmps29
      go_wp2_with fail
      refine (H1.out _ _ o1).mono ?_
      rintro e2 w2 ⟨rfl, o2, k2⟩
      have q1 := o2.cell 1
      have q2 := o2.cell 2
      have q3 := o2.cell 3
      have q4 := o2.cell 4
      go_wp2
      go_ret
      exact ⟨by rw [HV.out]; rfl, o2.drop, k2.al⟩
    by_cases g7 : y ≤ 65535
    rotate_left
    · have HV := Lib.hid (hdOK_no (r := ⟨st, c, p, n, y⟩) fun h => g7 h.2.2.2.2.2.2.2)
      have d0 := decide_eq_true g0
      have d1 := decide_eq_true g1
      have d2 := decide_eq_true g2
      have d3 := decide_eq_true g3
      have d4 := decide_eq_true g4
      have d5 := decide_eq_true g5
      have d6 := decide_eq_true g6
      have d7 := decide_eq_false g7
      clear g0 g1 g2 g3 g4 g5 g6 g7 hnb
      go_enter Tryz.func29, Tryz.ntmps29
      go_wp2_with fail
      refine (H1.out _ _ o1).mono ?_
      rintro e2 w2 ⟨rfl, o2, k2⟩
      have q1 := o2.cell 1
      have q2 := o2.cell 2
      have q3 := o2.cell 3
      have q4 := o2.cell 4
      go_wp2
      go_ret
      exact ⟨by rw [HV.out]; rfl, o2.drop, k2.al⟩
    have good := hdOK_good (r := ⟨st, c, p, n, y⟩) hnb ⟨g0, g1, g2, g3, g4, g5, g6, g7⟩
    have HV := Lib.hid good
    have d0 := decide_eq_true g0
    have d1 := decide_eq_true g1
    have d2 := decide_eq_true g2
    have d3 := decide_eq_true g3
    have d4 := decide_eq_true g4
    have d5 := decide_eq_true g5
    have d6 := decide_eq_true g6
    have d7 := decide_eq_true g7
    clear g0 g1 g2 g3 g4 g5 g6 g7 hnb good
    go_enter Tryz.func29, Tryz.ntmps29
    go_wp2_with fail
    refine (H1.out _ _ o1).mono ?_
    rintro e2 w2 ⟨rfl, o2, k2⟩
    have q1 := o2.cell 1
    have q2 := o2.cell 2
    have q3 := o2.cell 3
    have q4 := o2.cell 4
    go_wp2
    go_ret
    exact ⟨by rw [HV.out]; rfl, o2.drop, k2.al⟩
end
end Go.Proofs.YtbldanhjbnpdiaaGreatDoor
