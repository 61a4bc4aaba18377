/- tags.Cost, tags.Finish, fixed.Add. -/
import Derived.Test.YtnandakoigmknaaCom
import Derived.Test.YtnandakoigmknaaProg
import Derived.Lib.MinMax
namespace Go.Proofs.Ytnandakoigmknaa
open Go.RowKit
open SP

def unit1 (wt : Int) : Int := Int.tdiv 720720 wt
def cst (len wt : Int) : Int := len * unit1 wt
theorem unit1_range {wt : Int} (h1 : 1 ≤ wt) (h2 : wt ≤ 16) : 45045 ≤ unit1 wt ∧ unit1 wt ≤ 720720 := by
  have : wt = 1 ∨ wt = 2 ∨ wt = 3 ∨ wt = 4 ∨ wt = 5 ∨ wt = 6 ∨ wt = 7 ∨ wt = 8 ∨ wt = 9 ∨ wt = 10 ∨ wt = 11 ∨ wt = 12 ∨ wt = 13 ∨ wt = 14 ∨ wt = 15 ∨ wt = 16 := by omega
  rcases this with rfl | rfl | rfl | rfl | rfl | rfl | rfl | rfl | rfl | rfl | rfl | rfl | rfl | rfl | rfl | rfl <;> decide
/-- 720720 is a multiple of every weight. -/
theorem unit1_mul {wt : Int} (h1 : 1 ≤ wt) (h2 : wt ≤ 16) : unit1 wt * wt = 720720 := by
  have : wt = 1 ∨ wt = 2 ∨ wt = 3 ∨ wt = 4 ∨ wt = 5 ∨ wt = 6 ∨ wt = 7 ∨ wt = 8 ∨ wt = 9 ∨ wt = 10 ∨ wt = 11 ∨ wt = 12 ∨ wt = 13 ∨ wt = 14 ∨ wt = 15 ∨ wt = 16 := by omega
  rcases this with rfl | rfl | rfl | rfl | rfl | rfl | rfl | rfl | rfl | rfl | rfl | rfl | rfl | rfl | rfl | rfl <;> decide
theorem cst_range {len wt : Int} (h1 : 1 ≤ wt) (h2 : wt ≤ 16) (h3 : 1 ≤ len) (h4 : len ≤ 4096) : 45045 ≤ cst len wt ∧ cst len wt ≤ 2952069120 := by
  obtain ⟨a, b⟩ := unit1_range h1 h2
  unfold cst
  constructor
  · calc (45045 : Int) ≤ unit1 wt := a
      _ = 1 * unit1 wt := (Int.one_mul _).symm
      _ ≤ len * unit1 wt := Int.mul_le_mul_of_nonneg_right h3 (by omega)
  · calc len * unit1 wt ≤ 4096 * 720720 := Int.mul_le_mul h4 b (by omega) (by omega)
      _ = 2952069120 := by decide

def badLW (len wt : Int) : Prop := len < 1 ∨ 4096 < len ∨ wt < 1 ∨ 16 < wt
instance (len wt : Int) : Decidable (badLW len wt) := by unfold badLW; infer_instance
def costF (len wt : Int) : Int × Int := if badLW len wt then (0, 1) else (cst len wt, 0)
def pairV (p : Int × Int) : Value := .tuple #[.int .i64 p.1, .int .i64 p.2]

section
variable {w : World}
theorem weighty_spec (wt : Int) (w : World) : Calls Try.prog 85 #[.int .i64 wt] w (IsRet (.bool (decide (1 ≤ wt ∧ wt ≤ 16))) w) := by
  by_cases h1 : wt < 1
  · have : decide (1 ≤ wt ∧ wt ≤ 16) = false := by simp; omega
    rw [this]
    go_enter Try.func85, Try.ntmps85
    go_wp2
    go_ret
    exact ⟨rfl, rfl⟩
  · by_cases h2 : wt ≤ 16
    · have : decide (1 ≤ wt ∧ wt ≤ 16) = true := by simp; omega
      rw [this]
      go_enter Try.func85, Try.ntmps85
      go_wp2
      go_ret
      exact ⟨rfl, rfl⟩
    · have : decide (1 ≤ wt ∧ wt ≤ 16) = false := by simp; omega
      rw [this]
      go_enter Try.func85, Try.ntmps85
      go_wp2
      go_ret
      exact ⟨rfl, rfl⟩

set_option maxHeartbeats 800000 in
theorem cost_spec (len wt : Int) (w : World) : Calls Try.prog 69 #[.int .i64 len, .int .i64 wt] w (IsRet (pairV (costF len wt)) w) := by
  have hw := weighty_spec wt w
  by_cases h : badLW len wt
  · have e : costF len wt = (0, 1) := if_pos h
    rw [e]; clear e
    by_cases h1 : len < 1
    · go_enter Try.func69, Try.ntmps69
      go_wp2
      go_ret2
      exact ⟨rfl, rfl⟩
    · by_cases h2 : 4096 < len
      · go_enter Try.func69, Try.ntmps69
        go_wp2
        go_ret2
        exact ⟨rfl, rfl⟩
      · have hd : decide (1 ≤ wt ∧ wt ≤ 16) = false := by unfold badLW at h; simp; omega
        rw [hd] at hw
        clear h hd
        go_enter Try.func69, Try.ntmps69
        go_wp2_with fail
        refine hw.mono ?_
        rintro e1 w1 ⟨rfl, rfl⟩
        go_wp2
        go_ret2
        exact ⟨rfl, rfl⟩
  · have e : costF len wt = (cst len wt, 0) := if_neg h
    rw [e]; clear e
    have h' : 1 ≤ len ∧ len ≤ 4096 ∧ 1 ≤ wt ∧ wt ≤ 16 := by unfold badLW at h; omega
    have hd : decide (1 ≤ wt ∧ wt ≤ 16) = true := by simp; omega
    rw [hd] at hw
    clear h hd
    obtain ⟨h1, h2, h3, h4⟩ := h'
    obtain ⟨c1, c2⟩ := cst_range h3 h4 h1 h2
    obtain ⟨u1, u2⟩ := unit1_range h3 h4
    have e1 : Int.tdiv 720720 wt = unit1 wt := rfl
    have e2 : len * unit1 wt = cst len wt := rfl
    generalize unit1 wt = u at *
    generalize cst len wt = z at *
    have hz : ¬ wt = 0 := by omega
    go_enter Try.func69, Try.ntmps69
    go_wp2_with fail
    refine hw.mono ?_
    rintro e1 w1 ⟨rfl, rfl⟩
    go_wp2
    go_ret2
    exact ⟨rfl, rfl⟩

set_option maxHeartbeats 800000 in
theorem add_spec (x y : Int) (h1 : -1000000000000000000 ≤ x) (h2 : x ≤ 1000000000000000000) (h3 : -1000000000000000000 ≤ y) (h4 : y ≤ 1000000000000000000) (w : World) :
    Calls Try.prog 70 #[.int .i64 x, .int .i64 y] w (IsRet (pairV (x + y, 0)) w) := by
  by_cases h : 0 < y
  · have h5 : x < x + y := by omega
    obtain ⟨z, hz⟩ : ∃ z, x + y = z := ⟨_, rfl⟩
    rw [hz] at h5 ⊢
    go_enter Try.func70, Try.ntmps70
    go_wp2
    go_ret2
    exact ⟨rfl, rfl⟩
  · have h5 : ¬ x < x + y := by omega
    obtain ⟨z, hz⟩ : ∃ z, x + y = z := ⟨_, rfl⟩
    rw [hz] at h5 ⊢
    go_enter Try.func70, Try.ntmps70
    go_wp2
    go_ret2
    exact ⟨rfl, rfl⟩

def finF (was len wt : Int) : Int × Int := if badLW len wt ∨ was < 0 ∨ 1099511627776 < was then (0, 1) else if 1099511627776 < was + cst len wt then (0, 2) else (was + cst len wt, 0)

set_option maxHeartbeats 1600000 in
theorem finish_spec (was len wt : Int) (w : World) : Calls Try.prog 45 #[.int .i64 was, .int .i64 len, .int .i64 wt] w (IsRet (pairV (finF was len wt)) w) := by
  have hc := cost_spec len wt w
  by_cases h : badLW len wt
  · have e : finF was len wt = (0, 1) := if_pos (.inl h)
    have e' : costF len wt = (0, 1) := if_pos h
    rw [e]; rw [e'] at hc; clear e e' h
    unfold pairV at *
    go_enter Try.func45, Try.ntmps45
    go_wp2_with fail
    refine hc.mono ?_
    rintro e1 w1 ⟨rfl, rfl⟩
    go_wp2
    go_ret2
    exact ⟨rfl, rfl⟩
  · have e' : costF len wt = (cst len wt, 0) := if_neg h
    rw [e'] at hc; clear e'
    have h' : 1 ≤ len ∧ len ≤ 4096 ∧ 1 ≤ wt ∧ wt ≤ 16 := by unfold badLW at h; omega
    obtain ⟨c1, c2⟩ := cst_range h'.2.2.1 h'.2.2.2 h'.1 h'.2.1
    unfold finF
    generalize cst len wt = z at *
    by_cases h1 : was < 0
    · rw [if_pos (.inr (.inl h1))]
      clear h h'
      unfold pairV at *
      go_enter Try.func45, Try.ntmps45
      go_wp2_with fail
      refine hc.mono ?_
      rintro e1 w1 ⟨rfl, rfl⟩
      go_wp2
      go_ret2
      exact ⟨rfl, rfl⟩
    · by_cases h2 : 1099511627776 < was
      · rw [if_pos (.inr (.inr h2))]
        clear h h'
        unfold pairV at *
        go_enter Try.func45, Try.ntmps45
        go_wp2_with fail
        refine hc.mono ?_
        rintro e1 w1 ⟨rfl, rfl⟩
        go_wp2
        go_ret2
        exact ⟨rfl, rfl⟩
      · rw [if_neg (by rintro (h3 | h3 | h3); exact h h3; exact h1 h3; exact h2 h3)]
        clear h h'
        have ha := add_spec was z (by omega) (by omega) (by omega) (by omega) w
        by_cases h5 : 1099511627776 < was + z
        · rw [if_pos h5]
          generalize was + z = s at *
          unfold pairV at *
          go_enter Try.func45, Try.ntmps45
          go_wp2_with fail
          refine hc.mono ?_
          rintro e1 w1 ⟨rfl, rfl⟩
          go_wp2_with fail
          refine ha.mono ?_
          rintro e1 w1 ⟨rfl, rfl⟩
          go_wp2
          go_ret2
          exact ⟨rfl, rfl⟩
        · rw [if_neg h5]
          generalize was + z = s at *
          unfold pairV at *
          go_enter Try.func45, Try.ntmps45
          go_wp2_with fail
          refine hc.mono ?_
          rintro e1 w1 ⟨rfl, rfl⟩
          go_wp2_with fail
          refine ha.mono ?_
          rintro e1 w1 ⟨rfl, rfl⟩
          go_wp2
          go_ret2
          exact ⟨rfl, rfl⟩
end
end Go.Proofs.Ytnandakoigmknaa
