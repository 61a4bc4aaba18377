/- Records: Valid of both sides, word. -/
import Derived.Test.YtlccalkikjfimaaGreatDoorRcA
namespace Go.Proofs.YtlccalkikjfimaaGreatDoor
open Go.RowKit
open SP
section
variable {W w w' : World} {R : List SP}
set_option maxHeartbeats 6400000 in
set_option maxRecDepth 100000 in
theorem recValid_spec (r : Rec) (o : Own w R) : Calls Tryz.prog 28 #[recV r] w (Ret (.bool (decide (RecOk r))) R w) := by
  obtain ⟨s, k, f, p, y, v⟩ := r
  unfold recV
  have fin : ∀ x, Own (w.alloc x) R ∧ Calm w (w.alloc x) := fun x => ⟨o.more x, ⟨rfl, rfl, rfl⟩⟩
  dsimp only
  by_cases c0 : 0 ≤ s
  rotate_left
  · rw [decide_eq_false (fun h => c0 h.slot.1)]
    have d0 := decide_eq_false c0
    clear c0
    go_enter Tryz.func28, Tryz.ntmps28
    go_wp2
    go_ret
    exact ⟨rfl, (fin _).1, (fin _).2⟩
  by_cases c1 : s ≤ 16384
  rotate_left
  · rw [decide_eq_false (fun h => c1 h.slot.2)]
    have d0 := decide_eq_true c0
    have d1 := decide_eq_false c1
    clear c0 c1
    go_enter Tryz.func28, Tryz.ntmps28
    go_wp2
    go_ret
    exact ⟨rfl, (fin _).1, (fin _).2⟩
  by_cases c2 : 1 ≤ k
  rotate_left
  · rw [decide_eq_false (fun h => c2 h.kind.1)]
    have d0 := decide_eq_true c0
    have d1 := decide_eq_true c1
    have d2 := decide_eq_false c2
    clear c0 c1 c2
    go_enter Tryz.func28, Tryz.ntmps28
    go_wp2
    go_ret
    exact ⟨rfl, (fin _).1, (fin _).2⟩
  by_cases c3 : k ≤ 10
  rotate_left
  · rw [decide_eq_false (fun h => c3 h.kind.2)]
    have d0 := decide_eq_true c0
    have d1 := decide_eq_true c1
    have d2 := decide_eq_true c2
    have d3 := decide_eq_false c3
    clear c0 c1 c2 c3
    go_enter Tryz.func28, Tryz.ntmps28
    go_wp2
    go_ret
    exact ⟨rfl, (fin _).1, (fin _).2⟩
  by_cases c4 : -1 ≤ f
  rotate_left
  · rw [decide_eq_false (fun h => c4 h.flow.1)]
    have d0 := decide_eq_true c0
    have d1 := decide_eq_true c1
    have d2 := decide_eq_true c2
    have d3 := decide_eq_true c3
    have d4 := decide_eq_false c4
    clear c0 c1 c2 c3 c4
    go_enter Tryz.func28, Tryz.ntmps28
    go_wp2
    go_ret
    exact ⟨rfl, (fin _).1, (fin _).2⟩
  by_cases c5 : f < 32
  rotate_left
  · rw [decide_eq_false (fun h => c5 h.flow.2)]
    have d0 := decide_eq_true c0
    have d1 := decide_eq_true c1
    have d2 := decide_eq_true c2
    have d3 := decide_eq_true c3
    have d4 := decide_eq_true c4
    have d5 := decide_eq_false c5
    clear c0 c1 c2 c3 c4 c5
    go_enter Tryz.func28, Tryz.ntmps28
    go_wp2
    go_ret
    exact ⟨rfl, (fin _).1, (fin _).2⟩
  by_cases c6 : 0 ≤ p
  rotate_left
  · rw [decide_eq_false (fun h => c6 h.packet.1)]
    have d0 := decide_eq_true c0
    have d1 := decide_eq_true c1
    have d2 := decide_eq_true c2
    have d3 := decide_eq_true c3
    have d4 := decide_eq_true c4
    have d5 := decide_eq_true c5
    have d6 := decide_eq_false c6
    clear c0 c1 c2 c3 c4 c5 c6
    go_enter Tryz.func28, Tryz.ntmps28
    go_wp2
    go_ret
    exact ⟨rfl, (fin _).1, (fin _).2⟩
  by_cases c7 : p ≤ 262144
  rotate_left
  · rw [decide_eq_false (fun h => c7 h.packet.2)]
    have d0 := decide_eq_true c0
    have d1 := decide_eq_true c1
    have d2 := decide_eq_true c2
    have d3 := decide_eq_true c3
    have d4 := decide_eq_true c4
    have d5 := decide_eq_true c5
    have d6 := decide_eq_true c6
    have d7 := decide_eq_false c7
    clear c0 c1 c2 c3 c4 c5 c6 c7
    go_enter Tryz.func28, Tryz.ntmps28
    go_wp2
    go_ret
    exact ⟨rfl, (fin _).1, (fin _).2⟩
  by_cases c8 : 0 ≤ y
  rotate_left
  · rw [decide_eq_false (fun h => c8 h.why.1)]
    have d0 := decide_eq_true c0
    have d1 := decide_eq_true c1
    have d2 := decide_eq_true c2
    have d3 := decide_eq_true c3
    have d4 := decide_eq_true c4
    have d5 := decide_eq_true c5
    have d6 := decide_eq_true c6
    have d7 := decide_eq_true c7
    have d8 := decide_eq_false c8
    clear c0 c1 c2 c3 c4 c5 c6 c7 c8
    go_enter Tryz.func28, Tryz.ntmps28
    go_wp2
    go_ret
    exact ⟨rfl, (fin _).1, (fin _).2⟩
  by_cases c9 : y ≤ 6
  rotate_left
  · rw [decide_eq_false (fun h => c9 h.why.2)]
    have d0 := decide_eq_true c0
    have d1 := decide_eq_true c1
    have d2 := decide_eq_true c2
    have d3 := decide_eq_true c3
    have d4 := decide_eq_true c4
    have d5 := decide_eq_true c5
    have d6 := decide_eq_true c6
    have d7 := decide_eq_true c7
    have d8 := decide_eq_true c8
    have d9 := decide_eq_false c9
    clear c0 c1 c2 c3 c4 c5 c6 c7 c8 c9
    go_enter Tryz.func28, Tryz.ntmps28
    go_wp2
    go_ret
    exact ⟨rfl, (fin _).1, (fin _).2⟩
  by_cases c10 : -4611686018427387904 ≤ v
  rotate_left
  · rw [decide_eq_false (fun h => c10 h.value.1)]
    have d0 := decide_eq_true c0
    have d1 := decide_eq_true c1
    have d2 := decide_eq_true c2
    have d3 := decide_eq_true c3
    have d4 := decide_eq_true c4
    have d5 := decide_eq_true c5
    have d6 := decide_eq_true c6
    have d7 := decide_eq_true c7
    have d8 := decide_eq_true c8
    have d9 := decide_eq_true c9
    have d10 := decide_eq_false c10
    clear c0 c1 c2 c3 c4 c5 c6 c7 c8 c9 c10
    go_enter Tryz.func28, Tryz.ntmps28
    go_wp2
    go_ret
    exact ⟨rfl, (fin _).1, (fin _).2⟩
  by_cases c11 : v ≤ 4611686018427387904
  rotate_left
  · rw [decide_eq_false (fun h => c11 h.value.2)]
    have d0 := decide_eq_true c0
    have d1 := decide_eq_true c1
    have d2 := decide_eq_true c2
    have d3 := decide_eq_true c3
    have d4 := decide_eq_true c4
    have d5 := decide_eq_true c5
    have d6 := decide_eq_true c6
    have d7 := decide_eq_true c7
    have d8 := decide_eq_true c8
    have d9 := decide_eq_true c9
    have d10 := decide_eq_true c10
    have d11 := decide_eq_false c11
    clear c0 c1 c2 c3 c4 c5 c6 c7 c8 c9 c10 c11
    go_enter Tryz.func28, Tryz.ntmps28
    go_wp2
    go_ret
    exact ⟨rfl, (fin _).1, (fin _).2⟩
  rw [decide_eq_true (⟨⟨c0, c1⟩, ⟨c2, c3⟩, ⟨c4, c5⟩, ⟨c6, c7⟩, ⟨c8, c9⟩, ⟨c10, c11⟩⟩ : RecOk ⟨s, k, f, p, y, v⟩)]
  have d0 := decide_eq_true c0
  have d1 := decide_eq_true c1
  have d2 := decide_eq_true c2
  have d3 := decide_eq_true c3
  have d4 := decide_eq_true c4
  have d5 := decide_eq_true c5
  have d6 := decide_eq_true c6
  have d7 := decide_eq_true c7
  have d8 := decide_eq_true c8
  have d9 := decide_eq_true c9
  have d10 := decide_eq_true c10
  have d11 := decide_eq_true c11
  clear c0 c1 c2 c3 c4 c5 c6 c7 c8 c9 c10 c11
  go_enter Tryz.func28, Tryz.ntmps28
  go_wp2
  go_ret
  exact ⟨rfl, (fin _).1, (fin _).2⟩
set_option maxHeartbeats 6400000 in
set_option maxRecDepth 100000 in
theorem refValidRec_spec (r : Rec) (o : Own w R) : Calls Tryz.prog 19 #[recV r] w (Ret (.bool (decide (RecOk r))) R w) := by
  obtain ⟨s, k, f, p, y, v⟩ := r
  unfold recV
  have fin : ∀ x, Own (w.alloc x) R ∧ Calm w (w.alloc x) := fun x => ⟨o.more x, ⟨rfl, rfl, rfl⟩⟩
  dsimp only
  by_cases c0 : 0 ≤ s
  rotate_left
  · rw [decide_eq_false (fun h => c0 h.slot.1)]
    have d0 := decide_eq_false c0
    clear c0
    go_enter Tryz.func19, Tryz.ntmps19
    go_wp2
    go_ret
    exact ⟨rfl, (fin _).1, (fin _).2⟩
  by_cases c1 : s ≤ 16384
  rotate_left
  · rw [decide_eq_false (fun h => c1 h.slot.2)]
    have d0 := decide_eq_true c0
    have d1 := decide_eq_false c1
    clear c0 c1
    go_enter Tryz.func19, Tryz.ntmps19
    go_wp2
    go_ret
    exact ⟨rfl, (fin _).1, (fin _).2⟩
  by_cases c2 : 1 ≤ k
  rotate_left
  · rw [decide_eq_false (fun h => c2 h.kind.1)]
    have d0 := decide_eq_true c0
    have d1 := decide_eq_true c1
    have d2 := decide_eq_false c2
    clear c0 c1 c2
    go_enter Tryz.func19, Tryz.ntmps19
    go_wp2
    go_ret
    exact ⟨rfl, (fin _).1, (fin _).2⟩
  by_cases c3 : k ≤ 10
  rotate_left
  · rw [decide_eq_false (fun h => c3 h.kind.2)]
    have d0 := decide_eq_true c0
    have d1 := decide_eq_true c1
    have d2 := decide_eq_true c2
    have d3 := decide_eq_false c3
    clear c0 c1 c2 c3
    go_enter Tryz.func19, Tryz.ntmps19
    go_wp2
    go_ret
    exact ⟨rfl, (fin _).1, (fin _).2⟩
  by_cases c4 : -1 ≤ f
  rotate_left
  · rw [decide_eq_false (fun h => c4 h.flow.1)]
    have d0 := decide_eq_true c0
    have d1 := decide_eq_true c1
    have d2 := decide_eq_true c2
    have d3 := decide_eq_true c3
    have d4 := decide_eq_false c4
    clear c0 c1 c2 c3 c4
    go_enter Tryz.func19, Tryz.ntmps19
    go_wp2
    go_ret
    exact ⟨rfl, (fin _).1, (fin _).2⟩
  by_cases c5 : f < 32
  rotate_left
  · rw [decide_eq_false (fun h => c5 h.flow.2)]
    have d0 := decide_eq_true c0
    have d1 := decide_eq_true c1
    have d2 := decide_eq_true c2
    have d3 := decide_eq_true c3
    have d4 := decide_eq_true c4
    have d5 := decide_eq_false c5
    clear c0 c1 c2 c3 c4 c5
    go_enter Tryz.func19, Tryz.ntmps19
    go_wp2
    go_ret
    exact ⟨rfl, (fin _).1, (fin _).2⟩
  by_cases c6 : 0 ≤ p
  rotate_left
  · rw [decide_eq_false (fun h => c6 h.packet.1)]
    have d0 := decide_eq_true c0
    have d1 := decide_eq_true c1
    have d2 := decide_eq_true c2
    have d3 := decide_eq_true c3
    have d4 := decide_eq_true c4
    have d5 := decide_eq_true c5
    have d6 := decide_eq_false c6
    clear c0 c1 c2 c3 c4 c5 c6
    go_enter Tryz.func19, Tryz.ntmps19
    go_wp2
    go_ret
    exact ⟨rfl, (fin _).1, (fin _).2⟩
  by_cases c7 : p ≤ 262144
  rotate_left
  · rw [decide_eq_false (fun h => c7 h.packet.2)]
    have d0 := decide_eq_true c0
    have d1 := decide_eq_true c1
    have d2 := decide_eq_true c2
    have d3 := decide_eq_true c3
    have d4 := decide_eq_true c4
    have d5 := decide_eq_true c5
    have d6 := decide_eq_true c6
    have d7 := decide_eq_false c7
    clear c0 c1 c2 c3 c4 c5 c6 c7
    go_enter Tryz.func19, Tryz.ntmps19
    go_wp2
    go_ret
    exact ⟨rfl, (fin _).1, (fin _).2⟩
  by_cases c8 : 0 ≤ y
  rotate_left
  · rw [decide_eq_false (fun h => c8 h.why.1)]
    have d0 := decide_eq_true c0
    have d1 := decide_eq_true c1
    have d2 := decide_eq_true c2
    have d3 := decide_eq_true c3
    have d4 := decide_eq_true c4
    have d5 := decide_eq_true c5
    have d6 := decide_eq_true c6
    have d7 := decide_eq_true c7
    have d8 := decide_eq_false c8
    clear c0 c1 c2 c3 c4 c5 c6 c7 c8
    go_enter Tryz.func19, Tryz.ntmps19
    go_wp2
    go_ret
    exact ⟨rfl, (fin _).1, (fin _).2⟩
  by_cases c9 : y ≤ 6
  rotate_left
  · rw [decide_eq_false (fun h => c9 h.why.2)]
    have d0 := decide_eq_true c0
    have d1 := decide_eq_true c1
    have d2 := decide_eq_true c2
    have d3 := decide_eq_true c3
    have d4 := decide_eq_true c4
    have d5 := decide_eq_true c5
    have d6 := decide_eq_true c6
    have d7 := decide_eq_true c7
    have d8 := decide_eq_true c8
    have d9 := decide_eq_false c9
    clear c0 c1 c2 c3 c4 c5 c6 c7 c8 c9
    go_enter Tryz.func19, Tryz.ntmps19
    go_wp2
    go_ret
    exact ⟨rfl, (fin _).1, (fin _).2⟩
  by_cases c10 : -4611686018427387904 ≤ v
  rotate_left
  · rw [decide_eq_false (fun h => c10 h.value.1)]
    have d0 := decide_eq_true c0
    have d1 := decide_eq_true c1
    have d2 := decide_eq_true c2
    have d3 := decide_eq_true c3
    have d4 := decide_eq_true c4
    have d5 := decide_eq_true c5
    have d6 := decide_eq_true c6
    have d7 := decide_eq_true c7
    have d8 := decide_eq_true c8
    have d9 := decide_eq_true c9
    have d10 := decide_eq_false c10
    clear c0 c1 c2 c3 c4 c5 c6 c7 c8 c9 c10
    go_enter Tryz.func19, Tryz.ntmps19
    go_wp2
    go_ret
    exact ⟨rfl, (fin _).1, (fin _).2⟩
  by_cases c11 : v ≤ 4611686018427387904
  rotate_left
  · rw [decide_eq_false (fun h => c11 h.value.2)]
    have d0 := decide_eq_true c0
    have d1 := decide_eq_true c1
    have d2 := decide_eq_true c2
    have d3 := decide_eq_true c3
    have d4 := decide_eq_true c4
    have d5 := decide_eq_true c5
    have d6 := decide_eq_true c6
    have d7 := decide_eq_true c7
    have d8 := decide_eq_true c8
    have d9 := decide_eq_true c9
    have d10 := decide_eq_true c10
    have d11 := decide_eq_false c11
    clear c0 c1 c2 c3 c4 c5 c6 c7 c8 c9 c10 c11
    go_enter Tryz.func19, Tryz.ntmps19
    go_wp2
    go_ret
    exact ⟨rfl, (fin _).1, (fin _).2⟩
  rw [decide_eq_true (⟨⟨c0, c1⟩, ⟨c2, c3⟩, ⟨c4, c5⟩, ⟨c6, c7⟩, ⟨c8, c9⟩, ⟨c10, c11⟩⟩ : RecOk ⟨s, k, f, p, y, v⟩)]
  have d0 := decide_eq_true c0
  have d1 := decide_eq_true c1
  have d2 := decide_eq_true c2
  have d3 := decide_eq_true c3
  have d4 := decide_eq_true c4
  have d5 := decide_eq_true c5
  have d6 := decide_eq_true c6
  have d7 := decide_eq_true c7
  have d8 := decide_eq_true c8
  have d9 := decide_eq_true c9
  have d10 := decide_eq_true c10
  have d11 := decide_eq_true c11
  clear c0 c1 c2 c3 c4 c5 c6 c7 c8 c9 c10 c11
  go_enter Tryz.func19, Tryz.ntmps19
  go_wp2
  go_ret
  exact ⟨rfl, (fin _).1, (fin _).2⟩
end
end Go.Proofs.YtlccalkikjfimaaGreatDoor
