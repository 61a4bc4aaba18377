/- The order of a heap: what up and down keep. No program in sight. -/
import Derived.Test.YtaphomilgoobiaaHeapOpsb
namespace Go.Proofs.Ytaphomilgoobiaa

def leE (x y : Int × Int) : Prop := x.2 < y.2 ∨ x.2 = y.2 ∧ x.1 ≤ y.1
theorem leE_iff (x y : Int × Int) : cmpE x y ≤ 0 ↔ leE x y := by
  unfold cmpE orZ cmpZ leE
  by_cases h1 : x.2 < y.2 <;> by_cases h2 : y.2 < x.2 <;> by_cases h3 : x.1 < y.1 <;> by_cases h4 : y.1 < x.1 <;> simp [h1, h2, h3, h4] <;> omega
theorem cmpE_neg (x y : Int × Int) : cmpE x y < 0 ↔ ¬ leE y x := by
  unfold cmpE orZ cmpZ leE
  by_cases h1 : x.2 < y.2 <;> by_cases h2 : y.2 < x.2 <;> by_cases h3 : x.1 < y.1 <;> by_cases h4 : y.1 < x.1 <;> simp [h1, h2, h3, h4] <;> omega
theorem leE.refl (x : Int × Int) : leE x x := by unfold leE; omega
theorem leE.trans {x y z : Int × Int} (h : leE x y) (k : leE y z) : leE x z := by unfold leE at *; omega
theorem leE.of_not {x y : Int × Int} (h : ¬ leE x y) : leE y x := by unfold leE at *; omega
theorem leE.anti {x y : Int × Int} (h : leE x y) (k : leE y x) : x = y := by unfold leE at *; exact Prod.ext (by omega) (by omega)

def vE (es : List (Int × Int)) (j : Nat) : Int × Int := es.getD j (0, 0)
theorem vE_at {es : List (Int × Int)} {j : Nat} (h : j < es.length) (e : Int × Int) : es.getD j e = vE es j := by
  unfold vE
  rw [List.getD_eq_getElem?_getD, List.getD_eq_getElem?_getD, List.getElem?_eq_getElem h]; rfl
theorem vE_set (es : List (Int × Int)) (i : Nat) (x : Int × Int) (j : Nat) (hj : j < es.length) : vE (es.set i x) j = if i = j then x else vE es j := by
  unfold vE
  rw [List.getD_eq_getElem?_getD, List.getD_eq_getElem?_getD, List.getElem?_set]
  split
  · rename_i h; subst h; simp [hj]
  · rfl
theorem vE_same (es : List (Int × Int)) (i : Nat) (x : Int × Int) (hi : i < es.length) : vE (es.set i x) i = x := by rw [vE_set _ _ _ _ hi, if_pos rfl]
theorem vE_other (es : List (Int × Int)) (i : Nat) (x : Int × Int) (j : Nat) (hj : j < es.length) (h : i ≠ j) : vE (es.set i x) j = vE es j := by rw [vE_set _ _ _ _ hj, if_neg h]

def HOrd (es : List (Int × Int)) : Prop := ∀ j, 0 < j → j < es.length → leE (vE es ((j - 1) / 2)) (vE es j)
structure Hole (es : List (Int × Int)) (i : Nat) : Prop where
  a : ∀ j, 0 < j → j < es.length → j ≠ i → (j - 1) / 2 ≠ i → leE (vE es ((j - 1) / 2)) (vE es j)
  b : 0 < i → ∀ j, 0 < j → j < es.length → (j - 1) / 2 = i → leE (vE es ((i - 1) / 2)) (vE es j)
def Kids (es : List (Int × Int)) (i : Nat) (e : Int × Int) : Prop := ∀ j, 0 < j → j < es.length → (j - 1) / 2 = i → leE e (vE es j)
def Par (es : List (Int × Int)) (i : Nat) (e : Int × Int) : Prop := 0 < i → leE (vE es ((i - 1) / 2)) e

theorem Hole.full {es : List (Int × Int)} {i : Nat} {e : Int × Int} (hi : i < es.length) (h : Hole es i) (hk : Kids es i e) (hp : Par es i e) : HOrd (es.set i e) := by
  intro j h0 hj
  rw [List.length_set] at hj
  by_cases h1 : j = i
  · subst h1
    rw [vE_same _ _ _ hj, vE_other _ _ _ _ (by omega) (by omega)]
    exact hp h0
  · rw [vE_other es i e j hj (by omega)]
    by_cases h2 : (j - 1) / 2 = i
    · rw [h2, vE_same _ _ _ hi]
      exact hk j h0 hj h2
    · rw [vE_other _ _ _ _ (by omega) (by omega)]
      exact h.a j h0 hj h1 h2
theorem HOrd.hole {es : List (Int × Int)} (h : HOrd es) (i : Nat) (hi : i < es.length) : Hole es i :=
  ⟨fun j h0 hj _ _ => h j h0 hj, fun h0 j h1 hj hji => (h i h0 hi).trans (by have := h j h1 hj; rwa [hji] at this)⟩
theorem Hole.set {es : List (Int × Int)} {i : Nat} (x : Int × Int) (h : Hole es i) : Hole (es.set i x) i := by
  refine ⟨fun j h0 hj h1 h2 => ?_, fun h0 j h1 hj hji => ?_⟩
  · rw [List.length_set] at hj
    rw [vE_other _ _ _ _ hj (by omega), vE_other _ _ _ _ (by omega) (by omega)]
    exact h.a j h0 hj h1 h2
  · rw [List.length_set] at hj
    rw [vE_other _ _ _ _ hj (by omega), vE_other _ _ _ _ (by omega) (by omega)]
    exact h.b h0 j h1 hj hji

theorem upF_ord (e : Int × Int) : ∀ (f i : Nat) (es m : List (Int × Int)), i ≤ f → i < es.length → Hole es i →
    ∃ es' k, k < es'.length ∧ es'.length = es.length ∧ (upF e f i es m).1 = es'.set k e ∧ Hole es' k ∧ Par es' k e ∧ (Kids es i e → Kids es' k e)
  | 0, i, es, m, hf, hi, h => ⟨es, i, hi, rfl, rfl, h, fun h0 => by omega, id⟩
  | f + 1, i, es, m, hf, hi, h => by
    unfold upF
    by_cases h0 : i = 0
    · rw [if_pos h0]; exact ⟨es, i, hi, rfl, rfl, h, fun h => by omega, id⟩
    · rw [if_neg h0]
      have hj : (i - 1) / 2 < es.length := by omega
      rw [vE_at hj e]
      by_cases hc : cmpE (vE es ((i - 1) / 2)) e ≤ 0
      · rw [if_pos hc]; exact ⟨es, i, hi, rfl, rfl, h, fun _ => (leE_iff _ _).1 hc, id⟩
      · rw [if_neg hc]
        have hlt : leE e (vE es ((i - 1) / 2)) := leE.of_not (fun h => hc ((leE_iff _ _).2 h))
        obtain ⟨j, hjd⟩ : ∃ j, j = (i - 1) / 2 := ⟨_, rfl⟩
        rw [← hjd] at hlt hj ⊢
        obtain ⟨x, hx⟩ : ∃ x, x = vE es j := ⟨_, rfl⟩
        rw [← hx] at hlt ⊢
        have hH : Hole (es.set i x) j := by
          refine ⟨fun t t0 ht t1 t2 => ?_, fun j0 t t0 ht htj => ?_⟩
          · rw [List.length_set] at ht
            have hti : t ≠ i := fun he => t2 (by rw [he, ← hjd])
            rw [vE_other es i x t ht (by omega)]
            by_cases hp : (t - 1) / 2 = i
            · rw [hp, vE_same _ _ _ hi, hx, hjd]; exact h.b (by omega) t t0 ht hp
            · rw [vE_other _ _ _ _ (by omega) (by omega)]; exact h.a t t0 ht hti hp
          · rw [List.length_set] at ht
            have hpj : leE (vE es ((j - 1) / 2)) (vE es j) := h.a j j0 hj (by omega) (by omega)
            rw [vE_other _ _ _ _ (by omega) (by omega)]
            by_cases hti : t = i
            · subst hti; rw [vE_same _ _ _ hi, hx]; exact hpj
            · rw [vE_other es i x t ht (by omega)]
              have := h.a t t0 ht hti (by omega)
              rw [htj] at this
              exact hpj.trans this
        have hK : Kids (es.set i x) j e := by
          intro t t0 ht htj
          rw [List.length_set] at ht
          by_cases hti : t = i
          · subst hti; rw [vE_same _ _ _ hi]; exact hlt
          · rw [vE_other es i x t ht (by omega)]
            have := h.a t t0 ht hti (by omega)
            rw [htj, ← hx] at this
            exact hlt.trans this
        obtain ⟨es', k, k1, k2, k3, k4, k5, k6⟩ := upF_ord e f j (es.set i x) (mput m x.1 i) (by omega) (by simpa using hj) hH
        exact ⟨es', k, k1, by rw [k2, List.length_set], k3, k4, k5, fun _ => k6 hK⟩

theorem kid_min (e : Int × Int) {i : Nat} {es : List (Int × Int)} (h : 2 * i + 1 < es.length) : 0 < kid e i es ∧ kid e i es < es.length ∧ (kid e i es - 1) / 2 = i ∧ ∀ t, 0 < t → t < es.length → (t - 1) / 2 = i → leE (vE es (kid e i es)) (vE es t) := by
  unfold kid kidB
  by_cases h2 : 2 * i + 2 < es.length
  · rw [vE_at h2, vE_at h]
    by_cases hc : cmpE (vE es (2 * i + 2)) (vE es (2 * i + 1)) < 0
    · rw [if_pos (by simp [h2, hc])]
      refine ⟨by omega, by omega, by omega, fun t t0 ht hti => ?_⟩
      have : t = 2 * i + 1 ∨ t = 2 * i + 2 := by omega
      rcases this with rfl | rfl
      · exact leE.of_not ((cmpE_neg _ _).1 hc)
      · exact leE.refl _
    · rw [if_neg (by simp [h2]; omega)]
      refine ⟨by omega, by omega, by omega, fun t t0 ht hti => ?_⟩
      have : t = 2 * i + 1 ∨ t = 2 * i + 2 := by omega
      rcases this with rfl | rfl
      · exact leE.refl _
      · exact Classical.byContradiction fun hn => hc ((cmpE_neg _ _).2 hn)
  · rw [if_neg (by simp [h2])]
    refine ⟨by omega, by omega, by omega, fun t t0 ht hti => ?_⟩
    have : t = 2 * i + 1 := by omega
    subst this
    exact leE.refl _

theorem downF_ord (e : Int × Int) : ∀ (f i : Nat) (es m : List (Int × Int)), es.length - i ≤ f → i < es.length → Hole es i → Par es i e → HOrd (downF e f i es m).1
  | 0, i, es, m, hf, hi, h, hp => by omega
  | f + 1, i, es, m, hf, hi, h, hp => by
    unfold downF
    by_cases h0 : es.length ≤ 2 * i + 1
    · rw [if_pos h0]; exact h.full hi (fun t t0 ht hti => by omega) hp
    · rw [if_neg h0]
      obtain ⟨k0, k1, k2, k3⟩ := kid_min e (i := i) (es := es) (by omega)
      rw [vE_at k1]
      obtain ⟨k, hk⟩ : ∃ k, k = kid e i es := ⟨_, rfl⟩
      rw [← hk] at k0 k1 k2 k3 ⊢
      by_cases hc : cmpE e (vE es k) ≤ 0
      · rw [if_pos hc]; exact h.full hi (fun t t0 ht hti => ((leE_iff _ _).1 hc).trans (k3 t t0 ht hti)) hp
      · rw [if_neg hc]
        have hlt : leE (vE es k) e := leE.of_not (fun h => hc ((leE_iff _ _).2 h))
        obtain ⟨x, hx⟩ : ∃ x, x = vE es k := ⟨_, rfl⟩
        rw [← hx] at hlt k3 ⊢
        have hH : Hole (es.set i x) k := by
          refine ⟨fun t t0 ht t1 t2 => ?_, fun j0 t t0 ht htj => ?_⟩
          · rw [List.length_set] at ht
            by_cases hti : t = i
            · subst hti
              rw [vE_same _ _ _ hi, vE_other _ _ _ _ (by omega) (by omega), hx]
              exact h.b t0 k k0 k1 k2
            · rw [vE_other es i x t ht (by omega)]
              by_cases hpi : (t - 1) / 2 = i
              · rw [hpi, vE_same _ _ _ hi]; exact k3 t t0 ht hpi
              · rw [vE_other _ _ _ _ (by omega) (by omega)]; exact h.a t t0 ht hti hpi
          · rw [List.length_set] at ht
            rw [k2, vE_same _ _ _ hi, vE_other es i x t ht (by omega), hx, ← htj]
            exact h.a t t0 ht (by omega) (by omega)
        refine downF_ord e f k (es.set i x) (mput m x.1 i) (by rw [List.length_set]; omega) (by simpa using k1) hH (fun _ => ?_)
        rw [k2, vE_same _ _ _ hi]
        exact hlt
end Go.Proofs.Ytaphomilgoobiaa
