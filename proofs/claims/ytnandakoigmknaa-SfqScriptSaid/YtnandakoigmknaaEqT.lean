/- Equal lists of tags. -/
import Derived.Test.YtnandakoigmknaaSfqW
namespace Go.Proofs.Ytnandakoigmknaa
open Go.RowKit
open SP
section
variable {W w w' : World} {R : List SP} {b : Nat} {reb : Int} {S : St}

def EqTRel (L L' : List Tg) (w : World) (v : Value) (wr : World) : Prop :=
  ∃ (i m : Nat), v = .int .i64 (i : Int) ∧ i ≤ L.length ∧ L.take i = L'.take i ∧ wr = w.drewN m

def EqTPost (L L' : List Tg) (w : World) (e : Ending) (w' : World) : Prop := e = .returned (.bool (decide (L = L'))) ∧ ∃ m, w' = w.drewN m

set_option maxHeartbeats 3200000 in
set_option maxRecDepth 100000 in
theorem equalT_spec {S1 S2 : SP} {L L' : List Tg} {a a' : Option Addr} {n n' c c' : Nat} {R1 R2 : List SP} (h1 : TagsAt S1 a L) (h2 : TagsAt S2 a' L') (hn : n = L.length) (hn' : n' = L'.length) (hl : n ≤ 1000) (o1 : Own w (S1 :: R1)) (o2 : Own w (S2 :: R2)) :
    Calls Try.prog 32 #[.slice a n c, .slice a' n' c'] w (EqTPost L L' w) := by
  by_cases hne : n = n'
  · subst hne
    have hT : EqTRel L L' w (.int .i64 0) w := ⟨0, 0, rfl, by omega, rfl, rfl⟩
    have Hn := Lib.hid hn
    have Hn' := Lib.hid hn'
    clear hn hn'
    go_enter Try.func32, Try.ntmps32
    go_wp2
    go_loopw [5] (fun v wr => EqTRel L L' w v wr) (fun v _ => n - (intOf v).toNat)
    case atStart => exact hT
    case round =>
      clear hT
      obtain ⟨i, m, rfl, hi, htk, rfl⟩ := hrel
      have HTK := Lib.hid htk
      clear htk
      by_cases hlt : i < n
      · obtain ⟨t, ht⟩ : ∃ t, L[i]? = some t := ⟨_, List.getElem?_eq_getElem (by have := Hn.out; omega)⟩
        obtain ⟨u, hu⟩ : ∃ u, L'[i]? = some u := ⟨_, List.getElem?_eq_getElem (by have := Hn'.out; omega)⟩
        obtain ⟨g, so, rfl, d0, d1, d2⟩ := h1 _ _ o1 i _ ht
        obtain ⟨g', so', rfl, e0, e1, e2⟩ := h2 _ _ o2 i _ hu
        have HT := Lib.hid ht
        have HU := Lib.hid hu
        clear ht hu
        by_cases htu : t = u
        · subst htu
          go_wp2
          go_quiet (fail)
          go_wp2
          go_roundw
          case rel => exact ⟨i + 1, _, by go_num, by have := Hn.out; omega, by rw [List.take_add_one, List.take_add_one, HT.out, HU.out, HTK.out], rfl⟩
          case measure => simp [intOf]; omega
        · have hne : ¬ (t.f = u.f ∧ t.w = u.w ∧ t.s = u.s) := fun ⟨h1, h2, h3⟩ => htu (by cases t; cases u; simp_all)
          have hd : decide (L = L') = false := by
            rw [decide_eq_false_iff_not]
            rintro rfl
            have h1 := HT.out
            rw [HU.out] at h1
            exact htu (by simpa using h1.symm)
          have HD := Lib.hid hd
          obtain ⟨x, y, z⟩ := t
          obtain ⟨x', y', z'⟩ := u
          dsimp only at d0 d1 d2 e0 e1 e2 hne
          clear htu hd
          by_cases hx : x = x'
          · subst hx
            by_cases hy : y = y'
            · subst hy
              have hz : (z == z') = false := by rw [beq_eq_false_iff_ne]; exact fun e => hne ⟨rfl, rfl, e⟩
              clear hne
              go_wp2
              go_quiet (fail)
              go_wp2
              go_ret
              exact ⟨by rw [HD.out]; rfl, _, World.drewN_drewN _ _ _⟩
            · have hyb : (y == y') = false := by rw [beq_eq_false_iff_ne]; exact hy
              clear hne hy
              go_wp2
              go_quiet (fail)
              go_wp2
              go_ret
              exact ⟨by rw [HD.out]; rfl, _, World.drewN_drewN _ _ _⟩
          · have hxb : (x == x') = false := by rw [beq_eq_false_iff_ne]; exact hx
            clear hne hx
            go_wp2
            go_quiet (fail)
            go_wp2
            go_ret
            exact ⟨by rw [HD.out]; rfl, _, World.drewN_drewN _ _ _⟩
      · have hd : decide (L = L') = true := by
          rw [decide_eq_true_iff]
          have h1 := HTK.out
          rw [List.take_of_length_le (by have := Hn.out; omega), List.take_of_length_le (by have := Hn'.out; omega)] at h1
          exact h1
        have HD := Lib.hid hd
        clear hd
        go_wp2
        go_ret
        exact ⟨by rw [HD.out]; rfl, _, rfl⟩
  · have hd : decide (L = L') = false := by
      rw [decide_eq_false_iff_not]
      rintro rfl
      omega
    have HD := Lib.hid hd
    have hb : ((n : Int) == (n' : Int)) = false := by rw [beq_eq_false_iff_ne]; omega
    have hb2 : ((n : Int) != (n' : Int)) = true := by rw [bne_iff_ne]; omega
    clear hn hn' hd
    go_enter Try.func32, Try.ntmps32
    go_wp2
    go_ret
    exact ⟨by rw [HD.out]; rfl, 0, rfl⟩
end
end Go.Proofs.Ytnandakoigmknaa
