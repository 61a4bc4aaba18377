/- Patterns: the reference's like and Match. -/
import Derived.Test.YtapingmjlpmmmaaDoorLbB
import Derived.Test.YtapingmjlpmmmaaDoorLbN
namespace Go.Proofs.YtapingmjlpmmmaaDoor
open Go.RowKit
open Go.Shelf
open SP
section
variable {W w w' : World} {R : List SP}

/-- A window on a list of numbers. -/
def View (w : World) (a : Option Addr) (n : Nat) (xs : List Nat) : Prop := xs.length = n ∧ (n = 0 ∨ ∃ b off, a = some ⟨b, off, none⟩ ∧ ∀ (j : Nat) u, xs[j]? = some u → w.cell? ⟨b, off + j, none⟩ = some (.int .i64 (u : Int)))
theorem View.more {a : Option Addr} {n : Nat} {xs : List Nat} (v : View w a n xs) (k : Nat) : View (w.drewN k) a n xs := v
theorem View.tail {b off n : Nat} {c : Nat} {x : Nat} {xs : List Nat} (v : View w (some ⟨b, off, none⟩) (n + 1) (x :: xs)) (hc : n + 1 ≤ c) : (c = 1 ∧ View w (some ⟨b, off, none⟩) n xs) ∨ (c ≠ 1 ∧ View w (some ⟨b, off + 1, none⟩) n xs) := by
  have hl : xs.length = n := by have := v.1; simpa using this
  by_cases h0 : c = 1
  · exact .inl ⟨h0, hl, .inl (by omega)⟩
  · refine .inr ⟨h0, hl, ?_⟩
    rcases v.2 with h | ⟨b', off', e, h⟩
    · omega
    · simp only [Option.some.injEq, Addr.mk.injEq] at e
      obtain ⟨rfl, rfl, _⟩ := e
      refine .inr ⟨b, off + 1, rfl, fun j u hu => ?_⟩
      have := h (j + 1) u (by simpa using hu)
      rw [show off + 1 + j = off + (j + 1) by omega]; exact this
theorem View.head {a : Option Addr} {n x : Nat} {xs : List Nat} (v : View w a n (x :: xs)) : ∃ b off, a = some ⟨b, off, none⟩ ∧ w.cell? ⟨b, off, none⟩ = some (.int .i64 (x : Int)) := by
  obtain ⟨h1, h2⟩ := v
  rcases h2 with h | ⟨b, off, rfl, h⟩
  · subst h; simp at h1
  · exact ⟨b, off, rfl, h 0 x rfl⟩

theorem lkStar_cons (f : List Nat → Bool) (x : Nat) (t : List Nat) : lkStar f (x :: t) = (f (x :: t) || lkStar f t) := rfl
theorem lkStar_nil (f : List Nat → Bool) : lkStar f [] = f [] := rfl
def LikePost (b : Bool) (w : World) (e : Ending) (w' : World) : Prop := e = .returned (.bool b) ∧ ∃ k, w' = w.drewN k

set_option maxHeartbeats 3200000 in
set_option maxRecDepth 100000 in
theorem like_spec : ∀ (m : Nat) (w : World) (p s : List Nat) (a b : Option Addr) (n c l d : Nat), n + l ≤ m → n ≤ c → c ≤ maxLen → l ≤ d → d ≤ maxLen → View w a n p → View w b l s →
    Calls Tryd.prog 32 #[.slice a n c, .slice b l d] w (LikePost (lk p s) w) := by
  intro m
  induction m with
  | zero =>
    intro w p s a b n c l d hm hc hc' hd hd' vp vs
    have hn : n = 0 := by omega
    have hl : l = 0 := by omega
    subst hn; subst hl
    have hp : p = [] := List.eq_nil_of_length_eq_zero vp.1
    have hs : s = [] := List.eq_nil_of_length_eq_zero vs.1
    subst hp; subst hs
    go_enter Tryd.func32, Tryd.ntmps32
    go_wp2
    go_ret
    exact ⟨rfl, 0, rfl⟩
  | succ m ih =>
    intro w p s a b n c l d hm hc hc' hd hd' vp vs
    have IH := Lib.hid ih
    clear ih
    have fin : ∀ (r r' : Bool) (k : Nat), r' = r → LikePost r w (.returned (.bool r')) (w.drewN k) := fun r r' k h => ⟨by rw [h], k, rfl⟩
    cases p with
    | nil =>
      have hn : n = 0 := vp.1.symm
      subst hn
      cases s with
      | nil =>
        have hl : l = 0 := vs.1.symm
        subst hl
        go_enter Tryd.func32, Tryd.ntmps32
        go_wp2
        go_ret
        exact fin _ _ 0 rfl
      | cons x t =>
        obtain ⟨l, rfl⟩ : ∃ l', l = l' + 1 := ⟨t.length, vs.1.symm⟩
        go_enter Tryd.func32, Tryd.ntmps32
        go_wp2
        go_ret
        exact fin _ _ 0 rfl
    | cons z p =>
      obtain ⟨n, rfl⟩ : ∃ n', n = n' + 1 := ⟨p.length, vp.1.symm⟩
      obtain ⟨pb, po, rfl, c0⟩ := vp.head
      by_cases hz : z = 42
      · subst hz
        rw [lk_star]
        cases s with
        | nil =>
          have hl : l = 0 := vs.1.symm
          subst hl
          rcases vp.tail hc with ⟨hc1, vt⟩ | ⟨hc1, vt⟩
          all_goals
            go_enter Tryd.func32, Tryd.ntmps32
            go_wp2_with fail
            refine (IH.out w p [] _ b n _ 0 d (by omega) (by omega) (by omega) hd hd' vt vs).mono ?_
            rintro e1 w1 ⟨rfl, k, rfl⟩
            obtain ⟨r1, hr1⟩ : ∃ r1, lk p [] = r1 := ⟨_, rfl⟩
            have HR := Lib.hid hr1
            rw [hr1]
            clear hr1
            cases r1
            all_goals
              go_wp2
              go_ret
              exact fin _ _ _ (by rw [lkStar_nil, HR.out])
        | cons x t =>
          obtain ⟨l, rfl⟩ : ∃ l', l = l' + 1 := ⟨t.length, vs.1.symm⟩
          obtain ⟨sb, so, rfl, _⟩ := vs.head
          rcases vp.tail hc with ⟨hc1, vt⟩ | ⟨hc1, vt⟩
          all_goals rcases vs.tail hd with ⟨hd1, vu⟩ | ⟨hd1, vu⟩
          all_goals
            go_enter Tryd.func32, Tryd.ntmps32
            go_wp2_with fail
            refine (IH.out w p (x :: t) _ _ n _ (l + 1) _ (by omega) (by omega) (by omega) (by omega) (by omega) vt vs).mono ?_
            rintro e1 w1 ⟨rfl, k, rfl⟩
            obtain ⟨r1, hr1⟩ : ∃ r1, lk p (x :: t) = r1 := ⟨_, rfl⟩
            have HR := Lib.hid hr1
            rw [hr1]
            clear hr1
            cases r1
            case' true =>
              go_wp2
              go_ret
              exact fin _ _ _ (by rw [lkStar_cons, HR.out, Bool.true_or])
            case' false =>
              go_wp2_with fail
              refine (IH.out (w.drewN k) (42 :: p) t _ _ (n + 1) _ l _ (by omega) (by omega) (by omega) (by omega) (by omega) (vp.more k) (vu.more k)).mono ?_
              rintro e1 w1 ⟨rfl, k2, rfl⟩
              go_wp2
              go_ret
              exact fin _ _ (k + k2) (by rw [lkStar_cons, HR.out, Bool.false_or]; exact lk_star p t)
      · have hzb : decide ((z : Int) = 42) = false := decide_eq_false (by omega)
        have hz2 : ((z : Int) == 42) = false := beq_eq_false_iff_ne.2 (by omega)
        cases s with
        | nil =>
          have hl : l = 0 := vs.1.symm
          subst hl
          rw [lk_lit_nil hz]
          go_enter Tryd.func32, Tryd.ntmps32
          go_wp2
          refine wp_region_tail 17 (by kernel_rfl) (by kernel_rfl) ?_
          simp only [List.take_succ_cons, List.take_zero, List.drop_succ_cons, List.drop_zero]
          repeat (with_reducible refine wpStill_step (fun _ hK => ?_); go_simp; with_reducible refine hK _ ?_)
          with_reducible refine wpStill_nil ?_
          go_wp2
          go_ret
          exact fin _ _ 1 rfl
        | cons x t =>
          obtain ⟨l, rfl⟩ : ∃ l', l = l' + 1 := ⟨t.length, vs.1.symm⟩
          obtain ⟨sb, so, rfl, e0⟩ := vs.head
          rw [lk_lit hz]
          have c0' : w.drew.cell? ⟨pb, po, none⟩ = some (.int .i64 (z : Int)) := c0
          have e0' : w.drew.cell? ⟨sb, so, none⟩ = some (.int .i64 (x : Int)) := e0
          by_cases hzx : z = x
          · subst hzx
            rw [decide_eq_true rfl, Bool.true_and]
            have g1 : (1 : Int) ≤ (n : Int) + 1 := by omega
            have g2 : (1 : Int) ≤ (l : Int) + 1 := by omega
            rcases vp.tail hc with ⟨hc1, vt⟩ | ⟨hc1, vt⟩
            all_goals rcases vs.tail hd with ⟨hd1, vu⟩ | ⟨hd1, vu⟩
            all_goals
              go_enter Tryd.func32, Tryd.ntmps32
              go_wp2
              refine wp_region_tail 17 (by kernel_rfl) (by kernel_rfl) ?_
              simp only [List.take_succ_cons, List.take_zero, List.drop_succ_cons, List.drop_zero]
              repeat (with_reducible refine wpStill_step (fun _ hK => ?_); go_simp; with_reducible refine hK _ ?_)
              with_reducible refine wpStill_nil ?_
              go_wp2_with fail
              refine (IH.out (w.drewN 1) p t _ _ n _ l _ (by omega) (by omega) (by omega) (by omega) (by omega) (vt.more 1) (vu.more 1)).mono ?_
              rintro e1 w1 ⟨rfl, k2, rfl⟩
              go_wp2
              go_ret
              exact fin _ _ (1 + k2) rfl
          · have hne : decide (z = x) = false := decide_eq_false hzx
            have hne2 : ((z : Int) == (x : Int)) = false := beq_eq_false_iff_ne.2 (by omega)
            have hne3 : ¬ (z : Int) = (x : Int) := by omega
            rw [hne, Bool.false_and]
            go_enter Tryd.func32, Tryd.ntmps32
            go_wp2
            refine wp_region_tail 17 (by kernel_rfl) (by kernel_rfl) ?_
            simp only [List.take_succ_cons, List.take_zero, List.drop_succ_cons, List.drop_zero]
            repeat (with_reducible refine wpStill_step (fun _ hK => ?_); go_simp; with_reducible refine hK _ ?_)
            with_reducible refine wpStill_nil ?_
            go_wp2
            go_ret
            exact fin _ _ 1 rfl
end
end Go.Proofs.YtapingmjlpmmmaaDoor
