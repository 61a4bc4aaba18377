/- CompTurns, the plain law: how often another flow is served between two services of the flow 0. -/
import Derived.Test.YtnandakoigmknaaCompP
namespace Go.Proofs.Ytnandakoigmknaa
open Go.RowKit
open SP
section
variable {reb tm : Int} {el tg : List (Int × Int)}

theorem serve_get {sz : Int} {i : Nat} (h : SInv sz i el tg tm) (hi : i ≤ 100) {f : Int} (hmem : f ∈ el.map (·.1)) {len : Int} (h1 : 1 ≤ len) (h2 : len ≤ sz) (g : Int) :
    tget (servTg el tg f len) g = if g = f then tget tg f + len * unit1 (wf f) else tget tg g := by
  obtain ⟨_, hu, _, _, hp⟩ := set_facts h.sub
  obtain ⟨wt, hwt⟩ := mget_isSome_of hmem
  have hpw := hp _ (mem_of_mget hwt)
  dsimp only at hpw
  have hel : tget el f = wt := by unfold tget; rw [hwt]; rfl
  have hg := h.get f
  have hsz := h.szr
  obtain ⟨c1, c2⟩ := cst_range (len := len) hpw.2.2.2.1 hpw.2.2.2.2 h1 (by omega)
  have hfin : servFin el tg f len = (tget tg f + cst len wt, 0) := by
    unfold servFin finF
    rw [hel, if_neg (by unfold badLW; omega), if_neg (by omega)]
  unfold servTg
  rw [tget_mput, hfin, ← hpw.2.2.1]
  rfl

structure TInv (sz : Int) (i : Nat) (el tg : List (Int × Int)) (tm : Int) (gs : List Int) : Prop where
  base : SInv sz i el tg tm
  len : gs.length = 5
  bnd : ∀ j : Nat, j < 5 → 0 ≤ gs.getD j 0 ∧ gs.getD j 0 ≤ wf j + 1
  g : ∀ j : Nat, 0 < j → j < 5 → gs.getD j 0 = 0 ∨ ((0 : Int) ∈ el.map (·.1) ∧ tget tg 0 - sz * 720720 + gs.getD j 0 * (sz * unit1 (wf j)) ≤ tget tg j)

theorem TInv.zero {sz : Int} {i : Nat} (h : SInv sz i el tg tm) : TInv sz i el tg tm [0, 0, 0, 0, 0] := by
  have hz : ∀ j : Nat, ([0, 0, 0, 0, 0] : List Int).getD j 0 = 0 := by
    intro j
    rcases j with _ | _ | _ | _ | _ | j <;> rfl
  refine ⟨h, rfl, fun j _ => ?_, fun j _ _ => .inl (hz j)⟩
  have := (wf_range j).1
  rw [hz]; omega

theorem TInv.elig {sz : Int} {i : Nat} {gs : List Int} (h : TInv sz i el tg tm gs) {l : List (Int × Int)} (hl : l.Sublist fullSet) (h0 : (0 : Int) ∈ l.map (·.1)) : TInv sz i (eligEl l []) (eligTg el tm l tg) tm gs := by
  refine ⟨h.base.elig hl, h.len, h.bnd, fun j hj hj5 => ?_⟩
  rcases h.g j hj hj5 with h1 | ⟨h1, h2⟩
  · exact .inl h1
  · refine .inr ⟨by rw [eligEl_self (set_facts hl).2.1]; exact h0, ?_⟩
    obtain ⟨v, hv⟩ := mget_isSome_of h1
    have e1 : tget (eligTg el tm l tg) 0 = tget tg 0 := by rw [eligTg_get, if_neg]; rw [hv]; simp
    have e2 : tget tg j ≤ tget (eligTg el tm l tg) j := by rw [eligTg_get]; split <;> omega
    rw [e1]; omega

theorem TInv.low {sz : Int} {i : Nat} {gs : List Int} (h : TInv sz i el tg tm gs) {by_ tm' : Int} (h0 : 0 ≤ by_) (hb : by_ ≤ tget tg 0) (hs : SInv sz i el (lower by_ tg) tm') : TInv sz i el (lower by_ tg) tm' gs := by
  refine ⟨hs, h.len, h.bnd, fun j hj hj5 => ?_⟩
  rcases h.g j hj hj5 with h1 | ⟨h1, h2⟩
  · exact .inl h1
  · refine .inr ⟨h1, ?_⟩
    rw [tget_lower _ h0, tget_lower _ h0]
    omega

theorem TInv.serve {sz : Int} {i : Nat} {gs : List Int} (h : TInv sz i el tg tm gs) (hi : i ≤ 100) (h0 : (0 : Int) ∈ el.map (·.1)) :
    ∃ f : Nat, leastF el tg = (f : Int) ∧ f < 5 ∧
      TInv sz (i + 1) el (servTg el tg f sz) (servTm tg tm f) (if f = 0 then [0, 0, 0, 0, 0] else gs.set f (gs.getD f 0 + 1)) ∧
      TInv sz (i + 1) el (lower (servBy el tg tm f sz) (servTg el tg f sz)) (servTm tg tm f - servBy el tg tm f sz) (if f = 0 then [0, 0, 0, 0, 0] else gs.set f (gs.getD f 0 + 1)) := by
  have hsz := h.base.szr
  have hne : el ≠ [] := by rintro rfl; simp at h0
  obtain ⟨_, hu, _, _, hp⟩ := set_facts h.base.sub
  obtain ⟨hf0, hE, hBy, hi1, hi2⟩ := h.base.serve hi hne (len := sz) hsz.1 (Int.le_refl _)
  rcases leastF_facts el tg (fun p hp' => (hp p hp').1) with ⟨he, _⟩ | ⟨hmem, hmin⟩
  · exact absurd he hne
  have hf4 : leastF el tg ≤ 4 := by obtain ⟨p, hp', hpe⟩ := List.mem_map.1 hmem; rw [← hpe]; exact (hp p hp').2.1
  have hget := serve_get h.base hi hmem hsz.1 (Int.le_refl _)
  obtain ⟨f, hf⟩ : ∃ f : Nat, leastF el tg = (f : Int) := ⟨(leastF el tg).toNat, by omega⟩
  rw [hf] at hE hBy hi1 hi2 hmem hmin hf4 hget
  refine ⟨f, hf, by omega, ?_⟩
  have hlow0 : ∀ q ∈ el, servTm tg tm f ≤ tget (servTg el tg f sz) q.1 := hi1.low
  obtain ⟨q, hq, hq0⟩ := List.mem_map.1 h0
  have hb0 : servBy el tg tm f sz ≤ tget (servTg el tg f sz) 0 := by rw [hBy, ← hq0]; exact hlow0 q hq
  have hb1 : 0 ≤ servBy el tg tm f sz := by rw [hBy]; exact hi1.tm0.1
  have hm0 : tget tg f ≤ tget tg 0 := by rw [← hq0]; exact hmin q hq
  have hlowf : tm ≤ tget tg f := by obtain ⟨q', hq', hqf⟩ := List.mem_map.1 hmem; rw [← hqf]; exact h.base.low q' hq'
  have key : TInv sz (i + 1) el (servTg el tg f sz) (servTm tg tm f) (if f = 0 then [0, 0, 0, 0, 0] else gs.set f (gs.getD f 0 + 1)) := by
    by_cases hfz : f = 0
    · rw [if_pos hfz]; exact TInv.zero hi1
    · rw [if_neg hfz]
      have hfI : ¬ (0 : Int) = (f : Int) := by omega
      have hgd : ∀ j : Nat, (gs.set f (gs.getD f 0 + 1)).getD j 0 = if j = f then gs.getD f 0 + 1 else gs.getD j 0 := by
        intro j
        rw [List.getD_eq_getElem?_getD, List.getD_eq_getElem?_getD, List.getD_eq_getElem?_getD, List.getElem?_set]
        by_cases hjf : j = f
        · subst hjf
          rw [if_pos rfl, if_pos (by rw [h.len]; omega), if_pos rfl]; rfl
        · rw [if_neg (Ne.symm hjf), if_neg hjf]
      have e0 : tget (servTg el tg f sz) 0 = tget tg 0 := by rw [hget, if_neg hfI]
      have hw := wf_range f
      have hD : sz * 720720 = wf f * (sz * unit1 (wf f)) := by
        rw [← unit1_mul hw.1 hw.2]
        rw [Int.mul_comm (wf f), Int.mul_assoc]
      have hd1 : 1 ≤ sz * unit1 (wf f) := by
        have := (unit1_range hw.1 hw.2).1
        calc (1 : Int) ≤ unit1 (wf f) := by omega
          _ = 1 * unit1 (wf f) := (Int.one_mul _).symm
          _ ≤ sz * unit1 (wf f) := Int.mul_le_mul_of_nonneg_right hsz.1 (by omega)
      have hT0 : tget tg 0 ≤ tm + sz * 720720 := by
        have := (h.base.get 0).2.2
        have e : wf 0 = 1 := by decide
        rw [e] at this
        have e' : unit1 1 = 720720 := by decide
        rwa [e'] at this
      have hn : gs.getD f 0 ≤ wf f := by
        rcases h.g f (by omega) (by omega) with h1 | ⟨_, h2⟩
        · rw [h1]; omega
        · have h3 : gs.getD f 0 * (sz * unit1 (wf f)) ≤ wf f * (sz * unit1 (wf f)) := by rw [← hD]; omega
          exact Int.le_of_mul_le_mul_right h3 (by omega)
      have hgf := h.bnd f (by omega)
      refine ⟨hi1, by rw [List.length_set]; exact h.len, fun j hj => ?_, fun j hj hj5 => ?_⟩
      · rw [hgd]
        split
        · rename_i hjf; subst hjf; omega
        · exact h.bnd j hj
      · rw [hgd, e0, hget]
        by_cases hjf : j = f
        · subst hjf
          rw [if_pos rfl, if_pos rfl]
          refine .inr ⟨h0, ?_⟩
          rw [Int.add_mul, Int.one_mul]
          rcases h.g j hj hj5 with h1 | ⟨_, h2⟩
          · rw [h1, Int.zero_mul]; omega
          · omega
        · rw [if_neg hjf, if_neg (by omega)]
          rcases h.g j hj hj5 with h1 | ⟨h1, h2⟩
          · exact .inl h1
          · exact .inr ⟨h1, h2⟩
  exact ⟨key, key.low hb1 hb0 hi2⟩
end
end Go.Proofs.Ytnandakoigmknaa
