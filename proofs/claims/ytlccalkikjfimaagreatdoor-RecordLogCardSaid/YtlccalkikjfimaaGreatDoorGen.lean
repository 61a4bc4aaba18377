/- The generator of choices: each call of Next gives some number in its range, and changes its own block alone. -/
import Derived.Test.YtlccalkikjfimaaGreatDoorProg
import Derived.Test.YtlccalkikjfimaaGreatDoorSl
namespace Go.Proofs.YtlccalkikjfimaaGreatDoor
open Go.RowKit
open SP

/-- A slice of integers that came in: nil, or a row of 'cap' cells of which the first 'len' are its elements. -/
def IsRow (k : IntKind) (w : World) (a : Option Addr) (len cap : Nat) (zs : List Int) : Prop :=
  (a = none ∧ len = 0 ∧ cap = 0 ∧ zs = []) ∨
  ∃ x, a = some x ∧ len ≤ cap ∧ cap ≤ maxLen ∧ zs.length = cap ∧ (∀ i, i < zs.length → w.cell? (x.add i) = some (.int k (zs.getD i 0))) ∧ ∀ n ∈ zs, (Lit.int k n).wf = true

theorem IsRow.at {k : IntKind} {w : World} {a : Option Addr} {len cap : Nat} {zs : List Int} (h : IsRow k w a len cap zs) {i : Nat} (hi : i < len) :
    ∃ sb so x, a = some ⟨sb, so, none⟩ ∧ w.cell? ⟨sb, so + i, none⟩ = some (.int k x) := by
  rcases h with ⟨_, h, _⟩ | ⟨⟨sb, so, sp⟩, rfl, h1, _, h2, hc, _⟩
  · omega
  · cases sp with
    | none =>
      have h3 := hc i (by omega)
      have e : (⟨sb, so, none⟩ : Addr).add i = ⟨sb, so + i, none⟩ := by unfold Addr.add; split <;> simp_all
      rw [e] at h3
      exact ⟨sb, so, _, rfl, h3⟩
    | some s =>
      have h3 := hc 0 (by omega)
      have e : (⟨sb, so, some s⟩ : Addr).add 0 = ⟨sb, so, some s⟩ := rfl
      rw [e] at h3
      unfold World.cell? at h3
      split at h3 <;> simp at h3

/-- The choices behind block b; at most N of them have been taken. -/
def Ch (W : World) (b N : Nat) : SP := ex fun (p : Option Addr × Nat × Nat × List Int × Int) =>
  st [pu (IsRow .i64 W p.1 p.2.1 p.2.2.1 p.2.2.2.1 ∧ 0 ≤ p.2.2.2.2 ∧ p.2.2.2.2 ≤ N), cel b 34 [.slice p.1 p.2.1 p.2.2.1, .int .i64 p.2.2.2.2]]

theorem Ch.open {W w : World} {b N : Nat} {R : List SP} (o : Own w (Ch W b N :: R)) :
    ∃ a len cap zs at_, IsRow .i64 W a len cap zs ∧ 0 ≤ at_ ∧ at_ ≤ (N : Int) ∧ Own w (cel b 34 [.slice a len cap, .int .i64 at_] :: R) := by
  obtain ⟨⟨a, len, cap, zs, at_⟩, h⟩ := Own.ex.1 o
  obtain ⟨⟨h1, h2, h3⟩, h4⟩ := Own.pu.1 (Own.st.1 h)
  exact ⟨a, len, cap, zs, at_, h1, h2, h3, h4⟩

theorem Ch.shut {W w : World} {b N : Nat} {R : List SP} {a : Option Addr} {len cap : Nat} {zs : List Int} {at_ : Int} (h1 : IsRow .i64 W a len cap zs) (h2 : 0 ≤ at_) (h3 : at_ ≤ (N : Int))
    (o : Own w (cel b 34 [.slice a len cap, .int .i64 at_] :: R)) : Own w (Ch W b N :: R) :=
  Own.ex.2 ⟨⟨a, len, cap, zs, at_⟩, Own.st.2 (Own.pu.2 ⟨⟨h1, h2, h3⟩, o⟩)⟩

def NextPost (W : World) (b N : Nat) (n : Int) (R : List SP) (w : World) (e : Ending) (w' : World) : Prop :=
  ∃ x : Int, 0 ≤ x ∧ x < n ∧ e = .returned (.int .i64 x) ∧ Own w' (Ch W b (N + 1) :: old W :: R) ∧ Calm w w'

theorem tmod_range {x n : Int} (h : 1 ≤ n) : -n < x.tmod n ∧ x.tmod n < n := by
  have h1 := Int.natAbs_tmod x n
  have h2 := Nat.mod_lt x.natAbs (show 0 < n.natAbs by omega)
  omega

set_option maxHeartbeats 800000 in
theorem next_spec (W : World) (b N : Nat) (n : Int) (R : List SP) (w : World) (hn : 1 ≤ n) (hn2 : n ≤ 4611686018427387904) (hN : (N : Int) ≤ 1000000000000)
    (o : Own w (Ch W b N :: old W :: R)) :
    Calls Tryz.prog 5 #[.pointer (some ⟨b, 0, none⟩), .int .i64 n] w (NextPost W b N n R w) := by
  obtain ⟨a, len, cap, zs, at_, hrow, h0, h1, o1⟩ := Ch.open o
  have c0 := o1.cell 0
  have c1 := o1.cell 1
  have hf := o1.frozen
  have hd0 : n ≠ 0 := by omega
  have fin : ∀ (m : Nat) (x : Int), 0 ≤ x → x < n → NextPost W b N n R w (.returned (.int .i64 x)) ((w.drewN m).setCell ⟨b, 1, none⟩ (.int .i64 (at_ + 1))) := by
    intro m x hx1 hx2
    exact ⟨x, hx1, hx2, rfl, Ch.shut hrow (by omega) (by omega) ((o1.drewN m).setCell 1 _), ⟨rfl, rfl, rfl⟩⟩
  have hl : (len : Int) ≤ 9223372036854775807 := by
    rcases hrow with ⟨_, rfl, _⟩ | ⟨_, _, h, h', _⟩
    · omega
    · unfold maxLen at h'; omega
  have hlc : len ≤ cap := by
    rcases hrow with ⟨_, rfl, rfl, _⟩ | ⟨_, _, h, h', _⟩ <;> omega
  by_cases hlt : at_ < (len : Int)
  · obtain ⟨sb, so, x, rfl, hx⟩ := hrow.at (i := at_.toNat) (by omega)
    have hx' := o1.swap.swap.drop
    have hc := o1.drop.old_cell hx
    have hr := tmod_range (x := x) hn
    go_enter Tryz.func5, Tryz.ntmps5
    go_wp2
    go_quiet (fail)
    go_wp2
    go_quiet (fail)
    go_wp2
    all_goals go_ret
    · exact fin _ _ (by omega) (by omega)
    · exact fin _ _ (by omega) (by omega)
  · have hr1 := Int.emod_nonneg (7 * at_ + 3) hd0
    have hr2 := Int.emod_lt_of_pos (7 * at_ + 3) (show 0 < n by omega)
    go_enter Tryz.func5, Tryz.ntmps5
    go_wp2
    go_quiet (fail)
    go_wp2
    go_ret
    exact fin _ _ hr1 hr2

set_option maxHeartbeats 800000 in
theorem genNew_spec {W w : World} {R : List SP} (a : Option Addr) (len cap : Nat) (zs : List Int) (hz : IsRow .i64 W a len cap zs) (o : Own w R) :
    Calls Tryz.prog 4 #[.slice a len cap] w fun e w' => ∃ b, e = .returned (.pointer (some ⟨b, 0, none⟩)) ∧ Own w' (Ch W b 0 :: R) ∧ Calm w w' := by
  go_enter Tryz.func4, Tryz.ntmps4
  go_wp2
  go_ret
  exact ⟨_, rfl, Ch.shut hz (Int.le_refl _) (by simp) (o.alloc (.cells #[.slice a len cap, .int .i64 0] 34)), ⟨rfl, rfl, rfl⟩⟩

end Go.Proofs.YtlccalkikjfimaaGreatDoor
