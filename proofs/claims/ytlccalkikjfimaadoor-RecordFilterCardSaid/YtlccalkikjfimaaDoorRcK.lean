/- Records: the reference's Filter. -/
import Derived.Test.YtlccalkikjfimaaDoorRcH
namespace Go.Proofs.YtlccalkikjfimaaDoor
open Go.RowKit
open SP
section
variable {W w w' : World} {R : List SP} {Sp : SP}
set_option maxHeartbeats 6400000 in
set_option maxRecDepth 100000 in
theorem refFilter_spec {l : List Rec} {a : Option Addr} {n c : Nat} (k f : Int) (hS : RecsAt Sp a l) (hn : n = l.length) (hn2 : n ≤ 1000) (o : Own w (Sp :: R)) :
    Calls Tryd.prog 15 #[.slice a n c, .int .i64 k, .int .i64 f] w (FilterPost l k f Sp R w) := by
  have hT : FlRel l k f Sp R w (.slice none 0 0) (.int .i64 0) w := ⟨0, 0, none, 0, rfl, by omega, rfl, rfl, by omega, Own.slc_nil o, Calm.refl w⟩
  have HN := Lib.hid hn
  clear hn
  go_enter Tryd.func15, Tryd.ntmps15
  go_wp2
  go_loopw [7, 8] (fun v7 v12 wr => FlRel l k f Sp R w v7 v12 wr) (fun _ v _ => n - nvOf v)
  case atStart => exact hT
  case round =>
    clear hT
    obtain ⟨i, m, a', c', rfl, hi, rfl, hm, hmi, oR, kR⟩ := hrel
    by_cases hlt : i < n
    · obtain ⟨r, hr⟩ : ∃ r, l[i]? = some r := ⟨_, List.getElem?_eq_getElem (by have := HN.out; omega)⟩
      obtain ⟨g, so, rfl, d0, d1, d2, d3, d4, d5⟩ := hS.six (oR.up 1) hr
      have hsn := filtR_snoc k f (l.take i) r
      rw [← take_snocR hr] at hsn
      have HM := Lib.hid hm
      have HOR := Lib.hid oR
      clear hr hm
      obtain ⟨s, q, fl, p, y, u⟩ := r
      dsimp only at d0 d1 d2 d3 d4 d5
      by_cases hs : selR k f ⟨s, q, fl, p, y, u⟩ = true
      · rw [if_pos hs] at hsn
        have HSN := Lib.hid hsn
        clear hsn
        have oA := oR.alloc (.cells (recC ⟨s, q, fl, p, y, u⟩).toArray 24)
        have hnw := Own.news (T := 24) (vs := recC ⟨s, q, fl, p, y, u⟩) oA
        have hfin : ∀ (a3 : Option Addr) (c3 : Nat) (w3 : World), Own w3 (slc 24 6 a3 (m + 1) c3 (flat recC (filtR k f (l.take i)) ++ recC ⟨s, q, fl, p, y, u⟩) :: Sp :: R) → Calm w w3 →
            FlRel l k f Sp R w (.slice a3 (m + 1) c3) (.int .i64 ((i : Int) + 1)) w3 := fun a3 c3 w3 o3 k3 => by
          refine ⟨i + 1, m + 1, a3, c3, by push_cast; rfl, by have := HN.out; omega, rfl, ?_, by omega, ?_, k3⟩
          · rw [HSN.out, List.length_append, ← HM.out]; rfl
          · rw [HSN.out, flat_append]
            have e : flat recC [⟨s, q, fl, p, y, u⟩] = recC ⟨s, q, fl, p, y, u⟩ := by simp [flat]
            rw [e]; exact o3
        have HF := Lib.hid hfin
        clear hfin
        unfold selR at hs
        dsimp only at hs
        cases h1 : (k == 0) <;> cases h2 : (q == k) <;> cases h3 : (f == -2) <;> cases h4 : (fl == f)
        all_goals (try (exfalso; rw [h1, h2, h3, h4] at hs; exact absurd hs (by decide)))
        all_goals clear hs
        all_goals go_wp2_with (at_builtin; refine wpList_append_slc rfl _ _ rfl Tryd.recT rfl (oA.up 1) ⟨wr.heap.size, 0, none⟩ 1 1 (recC ⟨s, q, fl, p, y, u⟩) rfl rfl hnw (by intro z hz; unfold recC at hz; simp at hz; rcases hz with rfl | rfl | rfl | rfl | rfl | rfl <;> rfl) (by unfold maxLen; omega) (by omega) ?_)
        all_goals
          intro a3 c3 w3 o3 k3
          go_wp2
          go_roundw
          case rel => exact HF.out a3 c3 _ (o3.up 1).drop (kR.trans ⟨k3.os, k3.tape, k3.output⟩)
          case measure => simp [nvOf]; omega
      · rw [if_neg hs] at hsn
        have HSN := Lib.hid hsn
        clear hsn
        have hs' : selR k f ⟨s, q, fl, p, y, u⟩ = false := by simpa using hs
        have hfin : FlRel l k f Sp R w (.slice a' m c') (.int .i64 ((i : Int) + 1)) wr :=
          ⟨i + 1, m, a', c', by push_cast; rfl, by have := HN.out; omega, rfl, by rw [HSN.out]; exact HM.out, by omega, by rw [HSN.out]; exact HOR.out, kR⟩
        have HF := Lib.hid hfin
        clear hfin hs
        unfold selR at hs'
        dsimp only at hs'
        cases h1 : (k == 0) <;> cases h2 : (q == k) <;> cases h3 : (f == -2) <;> cases h4 : (fl == f)
        all_goals (try (exfalso; rw [h1, h2, h3, h4] at hs'; exact absurd hs' (by decide)))
        all_goals clear hs'
        all_goals
          go_wp2
          go_roundw
          case rel => exact HF.out
          case measure => simp [nvOf]; omega
    · have hin : i = l.length := by have := HN.out; omega
      subst hin
      rw [List.take_length] at oR hm
      subst hm
      go_wp2
      go_ret
      exact ⟨a', c', rfl, oR, kR⟩
end
end Go.Proofs.YtlccalkikjfimaaDoor
