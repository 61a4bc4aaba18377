/- The generator of choices: Next, with the world behind it written out. -/
import Derived.Test.YtlccalkikjfimaaGreatDoorGenW
namespace Go.Proofs.YtlccalkikjfimaaGreatDoor
open Go.RowKit
open SP
section
variable {W w w' : World} {R : List SP} {b : Nat}
def NextX (W : World) (b N : Nat) (n : Int) (R : List SP) (w : World) (e : Ending) (w' : World) : Prop :=
  ∃ (j m : Nat) (y : Int), (j : Int) < n ∧ e = .returned (.int .i64 (j : Int)) ∧ w' = (w.drewN m).setCell ⟨b, 1, none⟩ (.int .i64 y) ∧ Own w' (Ch W b (N + 1) :: old W :: R) ∧ Calm w w'
set_option maxHeartbeats 800000 in
theorem nextX_spec (N : Nat) (n : Int) (hn : 1 ≤ n) (hn2 : n ≤ 4611686018427387904) (hN : (N : Int) ≤ 1000000000000)
    (o : Own w (Ch W b N :: old W :: R)) :
    Calls Tryz.prog 5 #[.pointer (some ⟨b, 0, none⟩), .int .i64 n] w (NextX W b N n R w) := by
  obtain ⟨a, len, cap, zs, at_, hrow, h0, h1, o1⟩ := Ch.open o
  have c0 := o1.cell 0
  have c1 := o1.cell 1
  have hf := o1.frozen
  have hd0 : n ≠ 0 := by omega
  have fin : ∀ (m : Nat) (x : Int), 0 ≤ x → x < n → NextX W b N n R w (.returned (.int .i64 x)) ((w.drewN m).setCell ⟨b, 1, none⟩ (.int .i64 (at_ + 1))) := by
    intro m x hx1 hx2
    obtain ⟨j, rfl⟩ : ∃ j : Nat, x = (j : Int) := ⟨x.toNat, by omega⟩
    exact ⟨j, m, at_ + 1, hx2, rfl, rfl, Ch.shut hrow (by omega) (by omega) ((o1.drewN m).setCell 1 _), ⟨rfl, rfl, rfl⟩⟩
  have hl : (len : Int) ≤ 9223372036854775807 := by
    rcases hrow with ⟨_, rfl, _⟩ | ⟨_, _, h, h', _⟩
    · omega
    · unfold maxLen at h'; omega
  have hlc : len ≤ cap := by
    rcases hrow with ⟨_, rfl, rfl, _⟩ | ⟨_, _, h, h', _⟩ <;> omega
  by_cases hlt : at_ < (len : Int)
  · obtain ⟨sb, so, x, rfl, hx⟩ := hrow.at (i := at_.toNat) (by omega)
    have hc := o1.drop.old_cell hx
    have hr := tmod_range (x := x) hn
    go_enter Tryz.func5, Tryz.ntmps5
    go_wp2
    go_quiet (fail)
    go_wp2
    go_quiet (fail)
    go_wp2
    all_goals go_ret
    · exact fin _ _ (by omega) (by omega)
    · exact fin _ _ (by omega) (by omega)
  · have hr1 := Int.emod_nonneg (7 * at_ + 3) hd0
    have hr2 := Int.emod_lt_of_pos (7 * at_ + 3) (show 0 < n by omega)
    go_enter Tryz.func5, Tryz.ntmps5
    go_wp2
    go_quiet (fail)
    go_wp2
    go_ret
    exact fin _ _ hr1 hr2
end
end Go.Proofs.YtlccalkikjfimaaGreatDoor
