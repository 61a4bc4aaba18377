/- Records: Filter of both sides. -/
import Derived.Test.YtlccalkikjfimaaDoorRcG
namespace Go.Proofs.YtlccalkikjfimaaDoor
open Go.RowKit
open SP
section
variable {W w w' : World} {R : List SP} {Sp : SP}
def filtR (k f : Int) (l : List Rec) : List Rec := l.filter (selR k f)
theorem filtR_snoc (k f : Int) (l : List Rec) (r : Rec) : filtR k f (l ++ [r]) = if selR k f r = true then filtR k f l ++ [r] else filtR k f l := by
  unfold filtR
  rw [List.filter_append]
  by_cases h : selR k f r = true
  · rw [if_pos h, List.filter_cons_of_pos h]; rfl
  · rw [if_neg h, List.filter_cons_of_neg h]; simp
theorem filtR_len (k f : Int) (l : List Rec) : (filtR k f l).length ≤ l.length := List.length_filter_le _ _
theorem take_snocR {l : List Rec} {i : Nat} {r : Rec} (h : l[i]? = some r) : l.take (i + 1) = l.take i ++ [r] := by rw [List.take_add_one, h]; rfl
def FlRel (l : List Rec) (k f : Int) (Sp : SP) (R : List SP) (w : World) (v7 v12 : Value) (wr : World) : Prop :=
  ∃ (i n : Nat) (a : Option Addr) (c : Nat), v12 = .int .i64 (i : Int) ∧ i ≤ l.length ∧ v7 = .slice a n c ∧ n = (filtR k f (l.take i)).length ∧ n ≤ i ∧
    Own wr (slc 24 6 a n c (flat recC (filtR k f (l.take i))) :: Sp :: R) ∧ Calm w wr
def FilterPost (l : List Rec) (k f : Int) (Sp : SP) (R : List SP) (w : World) (e : Ending) (w' : World) : Prop :=
  ∃ (a : Option Addr) (c : Nat), Ret (.slice a (filtR k f l).length c) (slc 24 6 a (filtR k f l).length c (flat recC (filtR k f l)) :: Sp :: R) w e w'
set_option maxHeartbeats 6400000 in
set_option maxRecDepth 100000 in
theorem recFilter_spec {l : List Rec} {a : Option Addr} {n c : Nat} (k f : Int) (hS : RecsAt Sp a l) (hn : n = l.length) (hn2 : n ≤ 1000) (o : Own w (Sp :: R)) :
    Calls Tryd.prog 14 #[.slice a n c, .int .i64 k, .int .i64 f] w (FilterPost l k f Sp R w) := by
  have hT : FlRel l k f Sp R w (.slice none 0 0) (.int .i64 0) w := ⟨0, 0, none, 0, rfl, by omega, rfl, rfl, by omega, Own.slc_nil o, Calm.refl w⟩
  have HN := Lib.hid hn
  clear hn
  go_enter Tryd.func14, Tryd.ntmps14
  go_wp2
  go_loopw [7, 12] (fun v7 v12 wr => FlRel l k f Sp R w v7 v12 wr) (fun _ v _ => n - nvOf v)
  case atStart => exact hT
  case round =>
    clear hT
    obtain ⟨i, m, a', c', rfl, hi, rfl, hm, hmi, oR, kR⟩ := hrel
    by_cases hlt : i < n
    · obtain ⟨r, hr⟩ : ∃ r, l[i]? = some r := ⟨_, List.getElem?_eq_getElem (by have := HN.out; omega)⟩
      obtain ⟨g, so, rfl, d0, d1, d2, d3, d4, d5⟩ := hS.six (oR.up 1) hr
      have hsn := filtR_snoc k f (l.take i) r
      rw [← take_snocR hr] at hsn
      have HM := Lib.hid hm
      have HOR := Lib.hid oR
      clear hr hm
      obtain ⟨s, q, fl, p, y, u⟩ := r
      dsimp only at d0 d1 d2 d3 d4 d5
      by_cases hs : selR k f ⟨s, q, fl, p, y, u⟩ = true
      · rw [if_pos hs] at hsn
        have HSN := Lib.hid hsn
        clear hsn
        have oA := (oR.alloc (.cells (recC ⟨s, q, fl, p, y, u⟩).toArray 24)).alloc (.cells (recC ⟨s, q, fl, p, y, u⟩).toArray 24)
        have hnw := Own.news (T := 24) (vs := recC ⟨s, q, fl, p, y, u⟩) oA
        rw [World.size_alloc] at hnw
        have hfin : ∀ (a3 : Option Addr) (c3 : Nat) (w3 : World), Own w3 (slc 24 6 a3 (m + 1) c3 (flat recC (filtR k f (l.take i)) ++ recC ⟨s, q, fl, p, y, u⟩) :: Sp :: R) → Calm w w3 →
            FlRel l k f Sp R w (.slice a3 (m + 1) c3) (.int .i64 ((i : Int) + 1)) w3 := fun a3 c3 w3 o3 k3 => by
          refine ⟨i + 1, m + 1, a3, c3, by push_cast; rfl, by have := HN.out; omega, rfl, ?_, by omega, ?_, k3⟩
          · rw [HSN.out, List.length_append, ← HM.out]; rfl
          · rw [HSN.out, flat_append]
            have e : flat recC [⟨s, q, fl, p, y, u⟩] = recC ⟨s, q, fl, p, y, u⟩ := by simp [flat]
            rw [e]; exact o3
        have HF := Lib.hid hfin
        clear hfin
        unfold selR at hs
        dsimp only at hs
        cases h1 : (k == 0) <;> cases h2 : (q == k) <;> cases h3 : (f == -2) <;> cases h4 : (fl == f)
        all_goals (try (exfalso; rw [h1, h2, h3, h4] at hs; exact absurd hs (by decide)))
        all_goals clear hs
        all_goals go_wp2_with (at_builtin; refine wpList_append_slc rfl _ _ rfl Tryd.recT rfl (oA.up 2) ⟨wr.heap.size + 1, 0, none⟩ 1 1 (recC ⟨s, q, fl, p, y, u⟩) rfl rfl hnw (by intro z hz; unfold recC at hz; simp at hz; rcases hz with rfl | rfl | rfl | rfl | rfl | rfl <;> rfl) (by unfold maxLen; omega) (by omega) ?_)
        all_goals
          intro a3 c3 w3 o3 k3
          go_wp2
          go_roundw
          case rel => exact HF.out a3 c3 _ (o3.re [0, 3, 1, 2] |> fun o => (o.up 2).drop.re [0, 1] |> fun o => (o.up 2).drop) (kR.trans ⟨k3.os, k3.tape, k3.output⟩)
          case measure => simp [nvOf]; omega
      · rw [if_neg hs] at hsn
        have HSN := Lib.hid hsn
        clear hsn
        have hs' : selR k f ⟨s, q, fl, p, y, u⟩ = false := by simpa using hs
        have oA := (HOR.out.alloc (.cells (recC ⟨s, q, fl, p, y, u⟩).toArray 24)).drop
        have hfin : FlRel l k f Sp R w (.slice a' m c') (.int .i64 ((i : Int) + 1)) (wr.alloc (.cells (recC ⟨s, q, fl, p, y, u⟩).toArray 24)) :=
          ⟨i + 1, m, a', c', by push_cast; rfl, by have := HN.out; omega, rfl, by rw [HSN.out]; exact HM.out, by omega, by rw [HSN.out]; exact oA, kR.trans ⟨rfl, rfl, rfl⟩⟩
        have HF := Lib.hid hfin
        clear hfin hs
        unfold selR at hs'
        dsimp only at hs'
        cases h1 : (k == 0) <;> cases h2 : (q == k) <;> cases h3 : (f == -2) <;> cases h4 : (fl == f)
        all_goals (try (exfalso; rw [h1, h2, h3, h4] at hs'; exact absurd hs' (by decide)))
        all_goals clear hs'
        all_goals
          go_wp2
          go_roundw
          case rel => exact HF.out
          case measure => simp [nvOf]; omega
    · have hin : i = l.length := by have := HN.out; omega
      subst hin
      rw [List.take_length] at oR hm
      subst hm
      go_wp2
      go_ret
      exact ⟨a', c', rfl, oR, kR⟩
end
end Go.Proofs.YtlccalkikjfimaaDoor
