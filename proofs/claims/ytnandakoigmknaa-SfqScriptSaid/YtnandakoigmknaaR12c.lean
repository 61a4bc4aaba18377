/- The reference of chapter 12: ValidTags, Least, Select, Cost, Finish. -/
import Derived.Test.YtnandakoigmknaaR12b
namespace Go.Proofs.Ytnandakoigmknaa
open Go.RowKit
open SP
section
variable {P : SP} {W w w' : World} {R : List SP} {b : Nat} {at_ now aw : Int} {L O : List Tg}
theorem quiet_form {g : Nat} {args : Array Value} {v : Value} {w : World} (h : Calls Try.prog g args w (IsRet v w)) : Calls Try.prog g args w (fun e w' => e = .returned v ∧ w' = w) := h.mono (by rintro e w' ⟨rfl, rfl⟩; exact ⟨rfl, rfl⟩)
def VtRel (L : List Tg) (Sp : SP) (R : List SP) (w : World) (v3 : Value) (wr : World) : Prop :=
  ∃ (i : Nat), v3 = .int .i64 (i : Int) ∧ i ≤ L.length ∧ Own wr (Sp :: R) ∧ Calm w wr
set_option maxHeartbeats 3200000 in
set_option maxRecDepth 100000 in
theorem validT_spec {Sp : SP} {L : List Tg} {a : Option Addr} {n c : Nat} (hS : TagsAt Sp a L) (hok : LOk L) (hn : n = L.length) (o : Own w (Sp :: R)) :
    Calls Try.prog 89 #[.slice a n c] w (Ret (.bool true) (Sp :: R) w) := by
  have hT : VtRel L Sp R w (.int .i64 0) w := ⟨0, rfl, by omega, o, Calm.refl w⟩
  have hl := hok.len
  have hn2 : n ≤ 32 := by omega
  have Hn := Lib.hid hn
  clear hn
  go_enter Try.func89, Try.ntmps89
  go_wp2
  go_loopw [3] (fun v3 wr => VtRel L Sp R w v3 wr) (fun v3 _ => n - (intOf v3).toNat)
  case atStart => exact hT
  case round =>
    clear hT
    obtain ⟨i, rfl, hi, oR, kR⟩ := hrel
    by_cases hlt : i < n
    · obtain ⟨t, ht⟩ : ∃ t, L[i]? = some t := ⟨_, List.getElem?_eq_getElem (by have := Hn.out; omega)⟩
      obtain ⟨g, so, rfl, d0, d1, d2⟩ := hS _ _ oR i _ ht
      have h2 := hok.rng t (List.mem_of_getElem? ht)
      have hprev : ∀ j, i = j + 1 → ∃ u, L[j]? = some u ∧ u.f < t.f := fun j hj => by
        have hjl : j < L.length := by have := (List.getElem?_eq_some_iff.1 ht).1; omega
        refine ⟨_, List.getElem?_eq_getElem hjl, ?_⟩
        have := List.pairwise_iff_getElem.1 hok.asc j i hjl (List.getElem?_eq_some_iff.1 ht).1 (by omega)
        rw [(List.getElem?_eq_some_iff.1 ht).2] at this
        exact this
      obtain ⟨x, y, z⟩ := t
      dsimp only at d0 d1 d2 h2 hprev
      clear ht
      obtain ⟨h2, h3, h4, h5, h6, h7⟩ := h2
      have hx0 : decide (x < 0) = false := by simp; omega
      have hx1 : decide (32 ≤ x) = false := by simp; omega
      have hz0 : decide (z < 0) = false := by simp; omega
      have hz1 : decide (1099511627776 < z) = false := by simp; omega
      have hw : decide (1 ≤ y ∧ y ≤ 16) = true := by simp; omega
      have hwt := fun w => goodW_spec y w
      rw [hw] at hwt
      clear hw
      by_cases hi0 : i = 0
      · subst hi0
        clear hprev
        simp only [Nat.zero_mul, Nat.add_zero] at d0 d1 d2
        go_wp2
        go_quiet ((go_at_call 79; exact Calls.quiet_of_same (quiet_form (hwt _))))
        go_wp2
        go_roundw
        case rel => exact ⟨0 + 1, by go_num, by have := Hn.out; omega, oR.drewN _, ⟨kR.os, kR.tape, kR.output⟩⟩
        case measure => simp [intOf]; omega
      · obtain ⟨j, hj⟩ : ∃ j, i = j + 1 := ⟨i - 1, by omega⟩
        obtain ⟨u, hu, hlt2⟩ := hprev j hj
        obtain ⟨g', so', hgg, e0, _, _⟩ := hS _ _ oR j _ hu
        cases hgg
        obtain ⟨x', y', z'⟩ := u
        dsimp only at e0 hlt2
        have hle : decide (x ≤ x') = false := by simp; omega
        have hi9 : decide (0 < i) = true := by simp; omega
        have hw1 : IntKind.i64.wrap ((i : Int) - 1) = (j : Int) := by rw [IntKind.wrap_i64]; omega
        have hj0 : (0 : Int) < (i : Int) := by omega
        have hj1 : (0 : Int) ≤ (j : Int) := by omega
        have hj2 : (j : Int) < (n : Int) := by omega
        have hj3 : j < n := by omega
        clear hu hprev hj hi0
        go_wp2
        go_quiet ((go_at_call 79; exact Calls.quiet_of_same (quiet_form (hwt _))))
        go_wp2
        go_roundw
        case rel => exact ⟨i + 1, by go_num, by have := Hn.out; omega, oR.drewN _, ⟨kR.os, kR.tape, kR.output⟩⟩
        case measure => simp [intOf]; omega
    · go_wp2
      go_ret
      exact ⟨rfl, oR, kR⟩
end
end Go.Proofs.Ytnandakoigmknaa
