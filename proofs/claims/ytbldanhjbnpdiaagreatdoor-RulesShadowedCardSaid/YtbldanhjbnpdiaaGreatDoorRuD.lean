/- Rules: Valid of both sides (printed by genvalid.py). -/
import Derived.Test.YtbldanhjbnpdiaaGreatDoorRuC
namespace Go.Proofs.YtbldanhjbnpdiaaGreatDoor
open Go.RowKit
open Go.Shelf
open SP
section
variable {W w w' : World} {R : List SP}
def ruC (r : Ru) : List Value := [.string (mkB r.st), .int .i64 r.cls, .int .i64 r.first, .int .i64 r.last, .int .i64 r.flow]
def ruV (r : Ru) : Value := .agg #[.string (mkB r.st), .int .i64 r.cls, .int .i64 r.first, .int .i64 r.last, .int .i64 r.flow]
theorem ruOK_no {r : Ru} (h : ¬ (-1 ≤ r.cls ∧ r.cls ≤ 7 ∧ 0 ≤ r.first ∧ r.first ≤ r.last ∧ r.last ≤ 65535 ∧ 0 ≤ r.flow ∧ r.flow < 32)) : ruOK r = false := by unfold ruOK; rw [decide_eq_false h, Bool.and_false]
theorem ruOK_bad {r : Ru} (h1 : r.st ≠ []) (h2 : nameB r.st = false) : ruOK r = false := by unfold ruOK; rw [decide_eq_false h1, h2]; rfl
theorem ruOK_good {r : Ru} (h1 : r.st = [] ∨ nameB r.st = true) (h : -1 ≤ r.cls ∧ r.cls ≤ 7 ∧ 0 ≤ r.first ∧ r.first ≤ r.last ∧ r.last ≤ 65535 ∧ 0 ≤ r.flow ∧ r.flow < 32) : ruOK r = true := by
  unfold ruOK
  rw [decide_eq_true h, Bool.and_true]
  rcases h1 with h1 | h1
  · rw [decide_eq_true h1]; rfl
  · rw [h1, Bool.or_true]
theorem label_valid (s : ByteArray) (hs : s.size ≤ 2000000) (o : Own w R) : Calls Tryz.prog 30 #[.string s] w (Ret (.bool (nameB s.data.toList)) R w) :=
  (valid_spec s (by omega)).mono fun e w' ⟨h, pos, hw⟩ => by subst hw; exact ⟨h, o.more _, ⟨rfl, rfl, rfl⟩⟩

set_option maxHeartbeats 6400000 in
set_option maxRecDepth 100000 in
theorem ruValid_spec (r : Ru) (hs : r.st.length ≤ 2000000) (o : Own w R) : Calls Tryz.prog 23 #[ruV r] w (Ret (.bool (ruOK r)) R w) := by
  obtain ⟨st, c, f, l, y⟩ := r
  have H1 := Lib.hid fun (w1 : World) (R1 : List SP) (o1 : Own w1 R1) => label_valid (mkB st) (by rw [mkB_size]; exact hs) o1
  rw [mkB_data] at H1
  have hem := emptyB (mkB st)
  rw [mkB_data] at hem
  unfold ruV
  dsimp only
  have o1 := o.alloc (.cells #[.string (mkB st), .int .i64 c, .int .i64 f, .int .i64 l, .int .i64 y] 24)
  generalize mkB st = B at *
  by_cases h0 : st = []
  · rw [decide_eq_true h0] at hem
    by_cases g0 : -1 ≤ c
    rotate_left
    · have HV := Lib.hid (ruOK_no (r := ⟨st, c, f, l, y⟩) fun h => g0 h.1)
      have d0 := decide_eq_false g0
      clear g0 h0
      go_enter Tryz.func23, Tryz.ntmps23
      go_wp2
      go_ret
      exact ⟨by rw [HV.out]; rfl, o.more _, ⟨rfl, rfl, rfl⟩⟩
    by_cases g1 : c ≤ 7
    rotate_left
    · have HV := Lib.hid (ruOK_no (r := ⟨st, c, f, l, y⟩) fun h => g1 h.2.1)
      have d0 := decide_eq_true g0
      have d1 := decide_eq_false g1
      clear g0 g1 h0
      go_enter Tryz.func23, Tryz.ntmps23
      go_wp2
      go_ret
      exact ⟨by rw [HV.out]; rfl, o.more _, ⟨rfl, rfl, rfl⟩⟩
    by_cases g2 : 0 ≤ f
    rotate_left
    · have HV := Lib.hid (ruOK_no (r := ⟨st, c, f, l, y⟩) fun h => g2 h.2.2.1)
      have d0 := decide_eq_true g0
      have d1 := decide_eq_true g1
      have d2 := decide_eq_false g2
      clear g0 g1 g2 h0
      go_enter Tryz.func23, Tryz.ntmps23
      go_wp2
      go_ret
      exact ⟨by rw [HV.out]; rfl, o.more _, ⟨rfl, rfl, rfl⟩⟩
    by_cases g3 : f ≤ l
    rotate_left
    · have HV := Lib.hid (ruOK_no (r := ⟨st, c, f, l, y⟩) fun h => g3 h.2.2.2.1)
      have d0 := decide_eq_true g0
      have d1 := decide_eq_true g1
      have d2 := decide_eq_true g2
      have d3 := decide_eq_false g3
      clear g0 g1 g2 g3 h0
      go_enter Tryz.func23, Tryz.ntmps23
      go_wp2
      go_ret
      exact ⟨by rw [HV.out]; rfl, o.more _, ⟨rfl, rfl, rfl⟩⟩
    by_cases g4 : l ≤ 65535
    rotate_left
    · have HV := Lib.hid (ruOK_no (r := ⟨st, c, f, l, y⟩) fun h => g4 h.2.2.2.2.1)
      have d0 := decide_eq_true g0
      have d1 := decide_eq_true g1
      have d2 := decide_eq_true g2
      have d3 := decide_eq_true g3
      have d4 := decide_eq_false g4
      clear g0 g1 g2 g3 g4 h0
      go_enter Tryz.func23, Tryz.ntmps23
      go_wp2
      go_ret
      exact ⟨by rw [HV.out]; rfl, o.more _, ⟨rfl, rfl, rfl⟩⟩
    by_cases g5 : 0 ≤ y
    rotate_left
    · have HV := Lib.hid (ruOK_no (r := ⟨st, c, f, l, y⟩) fun h => g5 h.2.2.2.2.2.1)
      have d0 := decide_eq_true g0
      have d1 := decide_eq_true g1
      have d2 := decide_eq_true g2
      have d3 := decide_eq_true g3
      have d4 := decide_eq_true g4
      have d5 := decide_eq_false g5
      clear g0 g1 g2 g3 g4 g5 h0
      go_enter Tryz.func23, Tryz.ntmps23
      go_wp2
      go_ret
      exact ⟨by rw [HV.out]; rfl, o.more _, ⟨rfl, rfl, rfl⟩⟩
    by_cases g6 : y < 32
    rotate_left
    · have HV := Lib.hid (ruOK_no (r := ⟨st, c, f, l, y⟩) fun h => g6 h.2.2.2.2.2.2)
      have d0 := decide_eq_true g0
      have d1 := decide_eq_true g1
      have d2 := decide_eq_true g2
      have d3 := decide_eq_true g3
      have d4 := decide_eq_true g4
      have d5 := decide_eq_true g5
      have d6 := decide_eq_false g6
      clear g0 g1 g2 g3 g4 g5 g6 h0
      go_enter Tryz.func23, Tryz.ntmps23
      go_wp2
      go_ret
      exact ⟨by rw [HV.out]; rfl, o.more _, ⟨rfl, rfl, rfl⟩⟩
    have good := ruOK_good (r := ⟨st, c, f, l, y⟩) (.inl h0) ⟨g0, g1, g2, g3, g4, g5, g6⟩
    have HV := Lib.hid good
    have d0 := decide_eq_true g0
    have d1 := decide_eq_true g1
    have d2 := decide_eq_true g2
    have d3 := decide_eq_true g3
    have d4 := decide_eq_true g4
    have d5 := decide_eq_true g5
    have d6 := decide_eq_true g6
    clear g0 g1 g2 g3 g4 g5 g6 good h0
    go_enter Tryz.func23, Tryz.ntmps23
    go_wp2
    go_ret
    exact ⟨by rw [HV.out]; rfl, o.more _, ⟨rfl, rfl, rfl⟩⟩
  rw [decide_eq_false h0] at hem
  cases hnb : nameB st with
  | false =>
    have HV := Lib.hid (ruOK_bad (r := ⟨st, c, f, l, y⟩) h0 hnb)
    rw [hnb] at H1
    clear hnb h0
    go_enter Tryz.func23, Tryz.ntmps23
    go_wp2_with fail
    refine (H1.out _ _ o1).mono ?_
    rintro e2 w2 ⟨rfl, o2, k2⟩
    go_wp2
    go_ret
    exact ⟨by rw [HV.out]; rfl, o2.drop, k2.al⟩
  | true =>
    rw [hnb] at H1
    by_cases g0 : -1 ≤ c
    rotate_left
    · have HV := Lib.hid (ruOK_no (r := ⟨st, c, f, l, y⟩) fun h => g0 h.1)
      have d0 := decide_eq_false g0
      clear g0 h0 hnb
      go_enter Tryz.func23, Tryz.ntmps23
      go_wp2_with fail
      refine (H1.out _ _ o1).mono ?_
      rintro e2 w2 ⟨rfl, o2, k2⟩
      have q1 := o2.cell 1
      have q2 := o2.cell 2
      have q3 := o2.cell 3
      have q4 := o2.cell 4
      go_wp2
      go_ret
      exact ⟨by rw [HV.out]; rfl, o2.drop, k2.al⟩
    by_cases g1 : c ≤ 7
    rotate_left
    · have HV := Lib.hid (ruOK_no (r := ⟨st, c, f, l, y⟩) fun h => g1 h.2.1)
      have d0 := decide_eq_true g0
      have d1 := decide_eq_false g1
      clear g0 g1 h0 hnb
      go_enter Tryz.func23, Tryz.ntmps23
      go_wp2_with fail
      refine (H1.out _ _ o1).mono ?_
      rintro e2 w2 ⟨rfl, o2, k2⟩
      have q1 := o2.cell 1
      have q2 := o2.cell 2
      have q3 := o2.cell 3
      have q4 := o2.cell 4
      go_wp2
      go_ret
      exact ⟨by rw [HV.out]; rfl, o2.drop, k2.al⟩
    by_cases g2 : 0 ≤ f
    rotate_left
    · have HV := Lib.hid (ruOK_no (r := ⟨st, c, f, l, y⟩) fun h => g2 h.2.2.1)
      have d0 := decide_eq_true g0
      have d1 := decide_eq_true g1
      have d2 := decide_eq_false g2
      clear g0 g1 g2 h0 hnb
      go_enter Tryz.func23, Tryz.ntmps23
      go_wp2_with fail
      refine (H1.out _ _ o1).mono ?_
      rintro e2 w2 ⟨rfl, o2, k2⟩
      have q1 := o2.cell 1
      have q2 := o2.cell 2
      have q3 := o2.cell 3
      have q4 := o2.cell 4
      go_wp2
      go_ret
      exact ⟨by rw [HV.out]; rfl, o2.drop, k2.al⟩
    by_cases g3 : f ≤ l
    rotate_left
    · have HV := Lib.hid (ruOK_no (r := ⟨st, c, f, l, y⟩) fun h => g3 h.2.2.2.1)
      have d0 := decide_eq_true g0
      have d1 := decide_eq_true g1
      have d2 := decide_eq_true g2
      have d3 := decide_eq_false g3
      clear g0 g1 g2 g3 h0 hnb
      go_enter Tryz.func23, Tryz.ntmps23
      go_wp2_with fail
      refine (H1.out _ _ o1).mono ?_
      rintro e2 w2 ⟨rfl, o2, k2⟩
      have q1 := o2.cell 1
      have q2 := o2.cell 2
      have q3 := o2.cell 3
      have q4 := o2.cell 4
      go_wp2
      go_ret
      exact ⟨by rw [HV.out]; rfl, o2.drop, k2.al⟩
    by_cases g4 : l ≤ 65535
    rotate_left
    · have HV := Lib.hid (ruOK_no (r := ⟨st, c, f, l, y⟩) fun h => g4 h.2.2.2.2.1)
      have d0 := decide_eq_true g0
      have d1 := decide_eq_true g1
      have d2 := decide_eq_true g2
      have d3 := decide_eq_true g3
      have d4 := decide_eq_false g4
      clear g0 g1 g2 g3 g4 h0 hnb
      go_enter Tryz.func23, Tryz.ntmps23
      go_wp2_with fail
      refine (H1.out _ _ o1).mono ?_
      rintro e2 w2 ⟨rfl, o2, k2⟩
      have q1 := o2.cell 1
      have q2 := o2.cell 2
      have q3 := o2.cell 3
      have q4 := o2.cell 4
      go_wp2
      go_ret
      exact ⟨by rw [HV.out]; rfl, o2.drop, k2.al⟩
    by_cases g5 : 0 ≤ y
    rotate_left
    · have HV := Lib.hid (ruOK_no (r := ⟨st, c, f, l, y⟩) fun h => g5 h.2.2.2.2.2.1)
      have d0 := decide_eq_true g0
      have d1 := decide_eq_true g1
      have d2 := decide_eq_true g2
      have d3 := decide_eq_true g3
      have d4 := decide_eq_true g4
      have d5 := decide_eq_false g5
      clear g0 g1 g2 g3 g4 g5 h0 hnb
      go_enter Tryz.func23, Tryz.ntmps23
      go_wp2_with fail
      refine (H1.out _ _ o1).mono ?_
      rintro e2 w2 ⟨rfl, o2, k2⟩
      have q1 := o2.cell 1
      have q2 := o2.cell 2
      have q3 := o2.cell 3
      have q4 := o2.cell 4
      go_wp2
      go_ret
      exact ⟨by rw [HV.out]; rfl, o2.drop, k2.al⟩
    by_cases g6 : y < 32
    rotate_left
    · have HV := Lib.hid (ruOK_no (r := ⟨st, c, f, l, y⟩) fun h => g6 h.2.2.2.2.2.2)
      have d0 := decide_eq_true g0
      have d1 := decide_eq_true g1
      have d2 := decide_eq_true g2
      have d3 := decide_eq_true g3
      have d4 := decide_eq_true g4
      have d5 := decide_eq_true g5
      have d6 := decide_eq_false g6
      clear g0 g1 g2 g3 g4 g5 g6 h0 hnb
      go_enter Tryz.func23, Tryz.ntmps23
      go_wp2_with fail
      refine (H1.out _ _ o1).mono ?_
      rintro e2 w2 ⟨rfl, o2, k2⟩
      have q1 := o2.cell 1
      have q2 := o2.cell 2
      have q3 := o2.cell 3
      have q4 := o2.cell 4
      go_wp2
      go_ret
      exact ⟨by rw [HV.out]; rfl, o2.drop, k2.al⟩
    have good := ruOK_good (r := ⟨st, c, f, l, y⟩) (.inr hnb) ⟨g0, g1, g2, g3, g4, g5, g6⟩
    have HV := Lib.hid good
    have d0 := decide_eq_true g0
    have d1 := decide_eq_true g1
    have d2 := decide_eq_true g2
    have d3 := decide_eq_true g3
    have d4 := decide_eq_true g4
    have d5 := decide_eq_true g5
    have d6 := decide_eq_true g6
    clear g0 g1 g2 g3 g4 g5 g6 good h0 hnb
    go_enter Tryz.func23, Tryz.ntmps23
    go_wp2_with fail
    refine (H1.out _ _ o1).mono ?_
    rintro e2 w2 ⟨rfl, o2, k2⟩
    have q1 := o2.cell 1
    have q2 := o2.cell 2
    have q3 := o2.cell 3
    have q4 := o2.cell 4
    go_wp2
    go_ret
    exact ⟨by rw [HV.out]; rfl, o2.drop, k2.al⟩
set_option maxHeartbeats 6400000 in
set_option maxRecDepth 100000 in
theorem refValidRu_spec (r : Ru) (hs : r.st.length ≤ 2000000) (o : Own w R) : Calls Tryz.prog 25 #[ruV r] w (Ret (.bool (ruOK r)) R w) := by
  obtain ⟨st, c, f, l, y⟩ := r
  have H1 := Lib.hid fun (w1 : World) (R1 : List SP) (o1 : Own w1 R1) => validName_spec (mkB st) (by rw [mkB_size]; exact hs) o1
  rw [mkB_data] at H1
  have hem := emptyB (mkB st)
  rw [mkB_data] at hem
  unfold ruV
  dsimp only
  have o1 := o.alloc (.cells #[.string (mkB st), .int .i64 c, .int .i64 f, .int .i64 l, .int .i64 y] 24)
  generalize mkB st = B at *
  by_cases h0 : st = []
  · rw [decide_eq_true h0] at hem
    by_cases g0 : -1 ≤ c
    rotate_left
    · have HV := Lib.hid (ruOK_no (r := ⟨st, c, f, l, y⟩) fun h => g0 h.1)
      have d0 := decide_eq_false g0
      clear g0 h0
      go_enter Tryz.func25, Tryz.ntmps25
      go_wp2
      go_ret
      exact ⟨by rw [HV.out]; rfl, o.more _, ⟨rfl, rfl, rfl⟩⟩
    by_cases g1 : c ≤ 7
    rotate_left
    · have HV := Lib.hid (ruOK_no (r := ⟨st, c, f, l, y⟩) fun h => g1 h.2.1)
      have d0 := decide_eq_true g0
      have d1 := decide_eq_false g1
      clear g0 g1 h0
      go_enter Tryz.func25, Tryz.ntmps25
      go_wp2
      go_ret
      exact ⟨by rw [HV.out]; rfl, o.more _, ⟨rfl, rfl, rfl⟩⟩
    by_cases g2 : 0 ≤ f
    rotate_left
    · have HV := Lib.hid (ruOK_no (r := ⟨st, c, f, l, y⟩) fun h => g2 h.2.2.1)
      have d0 := decide_eq_true g0
      have d1 := decide_eq_true g1
      have d2 := decide_eq_false g2
      clear g0 g1 g2 h0
      go_enter Tryz.func25, Tryz.ntmps25
      go_wp2
      go_ret
      exact ⟨by rw [HV.out]; rfl, o.more _, ⟨rfl, rfl, rfl⟩⟩
    by_cases g3 : f ≤ l
    rotate_left
    · have HV := Lib.hid (ruOK_no (r := ⟨st, c, f, l, y⟩) fun h => g3 h.2.2.2.1)
      have d0 := decide_eq_true g0
      have d1 := decide_eq_true g1
      have d2 := decide_eq_true g2
      have d3 := decide_eq_false g3
      clear g0 g1 g2 g3 h0
      go_enter Tryz.func25, Tryz.ntmps25
      go_wp2
      go_ret
      exact ⟨by rw [HV.out]; rfl, o.more _, ⟨rfl, rfl, rfl⟩⟩
    by_cases g4 : l ≤ 65535
    rotate_left
    · have HV := Lib.hid (ruOK_no (r := ⟨st, c, f, l, y⟩) fun h => g4 h.2.2.2.2.1)
      have d0 := decide_eq_true g0
      have d1 := decide_eq_true g1
      have d2 := decide_eq_true g2
      have d3 := decide_eq_true g3
      have d4 := decide_eq_false g4
      clear g0 g1 g2 g3 g4 h0
      go_enter Tryz.func25, Tryz.ntmps25
      go_wp2
      go_ret
      exact ⟨by rw [HV.out]; rfl, o.more _, ⟨rfl, rfl, rfl⟩⟩
    by_cases g5 : 0 ≤ y
    rotate_left
    · have HV := Lib.hid (ruOK_no (r := ⟨st, c, f, l, y⟩) fun h => g5 h.2.2.2.2.2.1)
      have d0 := decide_eq_true g0
      have d1 := decide_eq_true g1
      have d2 := decide_eq_true g2
      have d3 := decide_eq_true g3
      have d4 := decide_eq_true g4
      have d5 := decide_eq_false g5
      clear g0 g1 g2 g3 g4 g5 h0
      go_enter Tryz.func25, Tryz.ntmps25
      go_wp2
      go_ret
      exact ⟨by rw [HV.out]; rfl, o.more _, ⟨rfl, rfl, rfl⟩⟩
    by_cases g6 : y < 32
    rotate_left
    · have HV := Lib.hid (ruOK_no (r := ⟨st, c, f, l, y⟩) fun h => g6 h.2.2.2.2.2.2)
      have d0 := decide_eq_true g0
      have d1 := decide_eq_true g1
      have d2 := decide_eq_true g2
      have d3 := decide_eq_true g3
      have d4 := decide_eq_true g4
      have d5 := decide_eq_true g5
      have d6 := decide_eq_false g6
      clear g0 g1 g2 g3 g4 g5 g6 h0
      go_enter Tryz.func25, Tryz.ntmps25
      go_wp2
      go_ret
      exact ⟨by rw [HV.out]; rfl, o.more _, ⟨rfl, rfl, rfl⟩⟩
    have good := ruOK_good (r := ⟨st, c, f, l, y⟩) (.inl h0) ⟨g0, g1, g2, g3, g4, g5, g6⟩
    have HV := Lib.hid good
    have d0 := decide_eq_true g0
    have d1 := decide_eq_true g1
    have d2 := decide_eq_true g2
    have d3 := decide_eq_true g3
    have d4 := decide_eq_true g4
    have d5 := decide_eq_true g5
    have d6 := decide_eq_true g6
    clear g0 g1 g2 g3 g4 g5 g6 good h0
    go_enter Tryz.func25, Tryz.ntmps25
    go_wp2
    go_ret
    exact ⟨by rw [HV.out]; rfl, o.more _, ⟨rfl, rfl, rfl⟩⟩
  rw [decide_eq_false h0] at hem
  cases hnb : nameB st with
  | false =>
    have HV := Lib.hid (ruOK_bad (r := ⟨st, c, f, l, y⟩) h0 hnb)
    rw [hnb] at H1
    clear hnb h0
    go_enter Tryz.func25, Tryz.ntmps25
    go_wp2_with fail
    refine (H1.out _ _ o1).mono ?_
    rintro e2 w2 ⟨rfl, o2, k2⟩
    go_wp2
    go_ret
    exact ⟨by rw [HV.out]; rfl, o2.drop, k2.al⟩
  | true =>
    rw [hnb] at H1
    by_cases g0 : -1 ≤ c
    rotate_left
    · have HV := Lib.hid (ruOK_no (r := ⟨st, c, f, l, y⟩) fun h => g0 h.1)
      have d0 := decide_eq_false g0
      clear g0 h0 hnb
      go_enter Tryz.func25, Tryz.ntmps25
      go_wp2_with fail
      refine (H1.out _ _ o1).mono ?_
      rintro e2 w2 ⟨rfl, o2, k2⟩
      have q1 := o2.cell 1
      have q2 := o2.cell 2
      have q3 := o2.cell 3
      have q4 := o2.cell 4
      go_wp2
      go_ret
      exact ⟨by rw [HV.out]; rfl, o2.drop, k2.al⟩
    by_cases g1 : c ≤ 7
    rotate_left
    · have HV := Lib.hid (ruOK_no (r := ⟨st, c, f, l, y⟩) fun h => g1 h.2.1)
      have d0 := decide_eq_true g0
      have d1 := decide_eq_false g1
      clear g0 g1 h0 hnb
      go_enter Tryz.func25, Tryz.ntmps25
      go_wp2_with fail
      refine (H1.out _ _ o1).mono ?_
      rintro e2 w2 ⟨rfl, o2, k2⟩
      have q1 := o2.cell 1
      have q2 := o2.cell 2
      have q3 := o2.cell 3
      have q4 := o2.cell 4
      go_wp2
      go_ret
      exact ⟨by rw [HV.out]; rfl, o2.drop, k2.al⟩
    by_cases g2 : 0 ≤ f
    rotate_left
    · have HV := Lib.hid (ruOK_no (r := ⟨st, c, f, l, y⟩) fun h => g2 h.2.2.1)
      have d0 := decide_eq_true g0
      have d1 := decide_eq_true g1
      have d2 := decide_eq_false g2
      clear g0 g1 g2 h0 hnb
      go_enter Tryz.func25, Tryz.ntmps25
      go_wp2_with fail
      refine (H1.out _ _ o1).mono ?_
      rintro e2 w2 ⟨rfl, o2, k2⟩
      have q1 := o2.cell 1
      have q2 := o2.cell 2
      have q3 := o2.cell 3
      have q4 := o2.cell 4
      go_wp2
      go_ret
      exact ⟨by rw [HV.out]; rfl, o2.drop, k2.al⟩
    by_cases g3 : f ≤ l
    rotate_left
    · have HV := Lib.hid (ruOK_no (r := ⟨st, c, f, l, y⟩) fun h => g3 h.2.2.2.1)
      have d0 := decide_eq_true g0
      have d1 := decide_eq_true g1
      have d2 := decide_eq_true g2
      have d3 := decide_eq_false g3
      clear g0 g1 g2 g3 h0 hnb
      go_enter Tryz.func25, Tryz.ntmps25
      go_wp2_with fail
      refine (H1.out _ _ o1).mono ?_
      rintro e2 w2 ⟨rfl, o2, k2⟩
      have q1 := o2.cell 1
      have q2 := o2.cell 2
      have q3 := o2.cell 3
      have q4 := o2.cell 4
      go_wp2
      go_ret
      exact ⟨by rw [HV.out]; rfl, o2.drop, k2.al⟩
    by_cases g4 : l ≤ 65535
    rotate_left
    · have HV := Lib.hid (ruOK_no (r := ⟨st, c, f, l, y⟩) fun h => g4 h.2.2.2.2.1)
      have d0 := decide_eq_true g0
      have d1 := decide_eq_true g1
      have d2 := decide_eq_true g2
      have d3 := decide_eq_true g3
      have d4 := decide_eq_false g4
      clear g0 g1 g2 g3 g4 h0 hnb
      go_enter Tryz.func25, Tryz.ntmps25
      go_wp2_with fail
      refine (H1.out _ _ o1).mono ?_
      rintro e2 w2 ⟨rfl, o2, k2⟩
      have q1 := o2.cell 1
      have q2 := o2.cell 2
      have q3 := o2.cell 3
      have q4 := o2.cell 4
      go_wp2
      go_ret
      exact ⟨by rw [HV.out]; rfl, o2.drop, k2.al⟩
    by_cases g5 : 0 ≤ y
    rotate_left
    · have HV := Lib.hid (ruOK_no (r := ⟨st, c, f, l, y⟩) fun h => g5 h.2.2.2.2.2.1)
      have d0 := decide_eq_true g0
      have d1 := decide_eq_true g1
      have d2 := decide_eq_true g2
      have d3 := decide_eq_true g3
      have d4 := decide_eq_true g4
      have d5 := decide_eq_false g5
      clear g0 g1 g2 g3 g4 g5 h0 hnb
      go_enter Tryz.func25, Tryz.ntmps25
      go_wp2_with fail
      refine (H1.out _ _ o1).mono ?_
      rintro e2 w2 ⟨rfl, o2, k2⟩
      have q1 := o2.cell 1
      have q2 := o2.cell 2
      have q3 := o2.cell 3
      have q4 := o2.cell 4
      go_wp2
      go_ret
      exact ⟨by rw [HV.out]; rfl, o2.drop, k2.al⟩
    by_cases g6 : y < 32
    rotate_left
    · have HV := Lib.hid (ruOK_no (r := ⟨st, c, f, l, y⟩) fun h => g6 h.2.2.2.2.2.2)
      have d0 := decide_eq_true g0
      have d1 := decide_eq_true g1
      have d2 := decide_eq_true g2
      have d3 := decide_eq_true g3
      have d4 := decide_eq_true g4
      have d5 := decide_eq_true g5
      have d6 := decide_eq_false g6
      clear g0 g1 g2 g3 g4 g5 g6 h0 hnb
      go_enter Tryz.func25, Tryz.ntmps25
      go_wp2_with fail
      refine (H1.out _ _ o1).mono ?_
      rintro e2 w2 ⟨rfl, o2, k2⟩
      have q1 := o2.cell 1
      have q2 := o2.cell 2
      have q3 := o2.cell 3
      have q4 := o2.cell 4
      go_wp2
      go_ret
      exact ⟨by rw [HV.out]; rfl, o2.drop, k2.al⟩
    have good := ruOK_good (r := ⟨st, c, f, l, y⟩) (.inr hnb) ⟨g0, g1, g2, g3, g4, g5, g6⟩
    have HV := Lib.hid good
    have d0 := decide_eq_true g0
    have d1 := decide_eq_true g1
    have d2 := decide_eq_true g2
    have d3 := decide_eq_true g3
    have d4 := decide_eq_true g4
    have d5 := decide_eq_true g5
    have d6 := decide_eq_true g6
    clear g0 g1 g2 g3 g4 g5 g6 good h0 hnb
    go_enter Tryz.func25, Tryz.ntmps25
    go_wp2_with fail
    refine (H1.out _ _ o1).mono ?_
    rintro e2 w2 ⟨rfl, o2, k2⟩
    have q1 := o2.cell 1
    have q2 := o2.cell 2
    have q3 := o2.cell 3
    have q4 := o2.cell 4
    go_wp2
    go_ret
    exact ⟨by rw [HV.out]; rfl, o2.drop, k2.al⟩
end
end Go.Proofs.YtbldanhjbnpdiaaGreatDoor
