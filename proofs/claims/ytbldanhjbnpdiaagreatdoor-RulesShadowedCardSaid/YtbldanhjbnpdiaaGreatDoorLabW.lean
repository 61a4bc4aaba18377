/- Names: the walks of the program's (label) and the reference's (ref7) letter, fold, Valid. -/
import Derived.Test.YtbldanhjbnpdiaaGreatDoorProg
import Derived.Test.YtbldanhjbnpdiaaGreatDoorLab
import Derived.Test.YtbldanhjbnpdiaaGreatDoorCom
import Derived.Lib.RuneCount
import Derived.Laws.RangeAny
namespace Go.Proofs.YtbldanhjbnpdiaaGreatDoor
open Go.RowKit
open SP
section
variable {w : World}

set_option maxHeartbeats 1600000 in
theorem letter_spec (r : Nat) (hr : r ≤ 1114111) : Calls Tryz.prog 39 #[.int .i32 (r : Int)] w (IsRet (.bool (letterN r)) w) := by
  go_enter Tryz.func39, Tryz.ntmps39
  go_wp2
  all_goals go_ret
  all_goals refine ⟨congrArg Ending.returned (congrArg Value.bool ?_), rfl⟩
  all_goals
    show _ = decide _
    rw [Bool.eq_iff_iff]
    try simp only [decide_eq_true_eq, bne_iff_ne, beq_eq_false_iff_ne, beq_iff_eq, Bool.false_eq_true, ne_eq, true_iff, false_iff] at *
    omega

set_option maxHeartbeats 1600000 in
theorem fold_spec (r : Nat) (hr : r ≤ 1114111) : Calls Tryz.prog 42 #[.int .i32 (r : Int)] w (IsRet (.int .i32 (foldZ (r : Int))) w) := by
  have hwr : ∀ z : Int, 0 ≤ z → z ≤ 1114143 → IntKind.i32.wrap z = z := by
    intro z h0 h1
    rw [IntKind.wrap_i32]; omega
  have hwr' := hwr ((r : Int) + 32) (by omega) (by omega)
  clear hwr
  go_enter Tryz.func42, Tryz.ntmps42
  go_wp2
  all_goals go_ret
  all_goals refine ⟨congrArg Ending.returned (congrArg (Value.int .i32) ?_), rfl⟩
  all_goals
    unfold foldZ
    simp only [bne_iff_ne, bne_eq_false_iff_eq, ne_eq] at *
    split <;> first | omega

set_option maxHeartbeats 1600000 in
theorem letterR_spec (r : Nat) (hr : r ≤ 1114111) : Calls Tryz.prog 44 #[.int .i64 (r : Int)] w (IsRet (.bool (letterN r)) w) := by
  go_enter Tryz.func44, Tryz.ntmps44
  go_wp2
  all_goals go_ret
  all_goals refine ⟨congrArg Ending.returned (congrArg Value.bool ?_), rfl⟩
  all_goals
    show _ = decide _
    rw [Bool.eq_iff_iff]
    try simp only [decide_eq_true_eq, Bool.or_eq_true, bne_iff_ne, beq_iff_eq, ne_eq, true_iff] at *
    omega

set_option maxHeartbeats 1600000 in
theorem foldR_spec (r : Nat) (hr : r ≤ 1114111) : Calls Tryz.prog 45 #[.int .i64 (r : Int)] w (IsRet (.int .i64 (foldN r : Int)) w) := by
  have hwr' : IntKind.i64.wrap ((r : Int) + 32) = (r : Int) + 32 := by rw [IntKind.wrap_i64]; omega
  rw [← foldZ_nat]
  go_enter Tryz.func45, Tryz.ntmps45
  go_wp2
  all_goals go_ret
  all_goals refine ⟨congrArg Ending.returned (congrArg (Value.int .i64) ?_), rfl⟩
  all_goals
    unfold foldZ
    simp only [bne_iff_ne, bne_eq_false_iff_eq, ne_eq] at *
    split <;> first | omega

theorem decode_le_max (s : ByteArray) (pos : Nat) : (Utf8.decode s pos).1 ≤ 1114111 := by
  have := decodeL_scalar (s.data.toList.drop pos)
  rw [Lib.decodeL_drop] at this
  unfold scalar at this; omega
theorem runesL_at (s : ByteArray) (pos : Nat) (hp : pos < s.size) : runesL (s.data.toList.drop pos) = (Utf8.decode s pos).1 :: runesL (s.data.toList.drop (pos + (Utf8.decode s pos).2)) := by
  have hl : s.data.toList.length = s.size := (Lib.size_eq s).symm
  rw [runesL_step _ (by intro e; have := congrArg List.length e; rw [List.length_drop] at this; simp only [List.length_nil] at this; omega), Lib.decodeL_drop, List.drop_drop]
theorem runesL_end (s : ByteArray) (pos : Nat) (hp : ¬ pos < s.size) : runesL (s.data.toList.drop pos) = [] := by
  have hl : s.data.toList.length = s.size := (Lib.size_eq s).symm
  rw [List.drop_eq_nil_of_le (by omega)]; rfl

set_option maxHeartbeats 1600000 in
set_option maxRecDepth 100000 in
theorem valid_spec (s : ByteArray) (hs : s.size ≤ 9223372036854775807) : Calls Tryz.prog 30 #[.string s] w fun e w' => e = .returned (.bool (nameB s.data.toList)) ∧ ∃ pos, w' = w.iter s pos := by
  have hl : s.data.toList.length = s.size := (Lib.size_eq s).symm
  go_enter Tryz.func30, Tryz.ntmps30
  go_wp2
  go_loopw [4] (fun _ w' => ∃ pos : Nat, w' = w.iter s pos ∧ (runesL s.data.toList).all letterN = (runesL (s.data.toList.drop pos)).all letterN) (fun _ w' => s.size - w'.iterPos w.heap.size)
  case atStart => exact ⟨0, rfl, rfl⟩
  case round =>
    obtain ⟨pos, rfl, hall⟩ := hrel
    by_cases hp : pos < s.size
    · have hnx : ∀ ty, (Instr.next (.pointer (some ⟨w.heap.size, 0, none⟩)) true ty).run Tryz.prog (w.iter s pos) = _ := fun ty => run_next_any w s pos ty hp
      have hwd := Lib.decode_width_pos s pos hp
      have hlet := letter_spec (w := w.iter s (pos + (Utf8.decode s pos).2)) (Utf8.decode s pos).1 (decode_le_max s pos)
      rw [runesL_at s pos hp, List.all_cons] at hall
      go_wp2_with fail
      cases hb : letterN (Utf8.decode s pos).1 with
      | true =>
        rw [hb] at hlet hall
        rw [Bool.true_and] at hall
        refine hlet.mono ?_
        rintro e1 w1 ⟨rfl, rfl⟩
        clear hlet
        go_wp2
        go_roundw
        case rel => exact ⟨_, rfl, hall⟩
        case measure => simp; omega
      | false =>
        rw [hb] at hlet hall
        rw [Bool.false_and] at hall
        refine hlet.mono ?_
        rintro e1 w1 ⟨rfl, rfl⟩
        clear hlet
        go_wp2
        go_ret
        refine ⟨congrArg Ending.returned (congrArg Value.bool ?_), _, rfl⟩
        unfold nameB; rw [hall]; rfl
    · have hnx : ∀ ty, (Instr.next (.pointer (some ⟨w.heap.size, 0, none⟩)) true ty).run Tryz.prog (w.iter s pos) = _ := fun ty => run_next_end w s pos ty hp
      rw [runesL_end s pos hp, List.all_nil] at hall
      go_wp2
      all_goals go_ret
      all_goals refine ⟨congrArg Ending.returned (congrArg Value.bool ?_), _, rfl⟩
      all_goals
        unfold nameB; rw [hall, Bool.true_and, hl]
        rw [Bool.eq_iff_iff]
        simp only [decide_eq_true_eq, Bool.and_eq_true, Bool.false_eq_true, false_iff]
        omega
end
end Go.Proofs.YtbldanhjbnpdiaaGreatDoor
