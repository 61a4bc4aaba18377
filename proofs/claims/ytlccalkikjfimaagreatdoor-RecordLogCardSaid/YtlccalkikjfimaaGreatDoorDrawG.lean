/- Drawn regions with guards that are decided beforehand. -/
import Derived.Test.YtlccalkikjfimaaGreatDoorDrawV
namespace Go.Proofs.YtlccalkikjfimaaGreatDoor
open Go.RowKit
open SP
section
variable {P : Program} {ops : Array Oper} {Q : Exit → Act → World → Prop}
theorem wanted_at {A0 a : Act} {L : Nat → Bool} {v : Nat → Value} {o : Oper} {j : Nat} {want b : Bool} {t : Nat} (hA : Agree A0 ops L v a) (hg : o.guard = some (j, want)) (ht : (ops[j]?).bind (·.dst) = some t) (hl : L j = true) (hv : v j = .bool b) :
    Region.wanted o (yielded ops a.tmps) = (b == want) := by
  have h := hA.get j hl ht
  rw [hv] at h
  unfold Region.wanted
  rw [hg]
  show (yielded ops a.tmps j == some want) = _
  unfold yielded
  rw [ht]
  simp only [Option.bind_some]
  cases hx : a.tmps[t]? with
  | none => rw [hx] at h; cases h
  | some x =>
    rw [hx] at h
    have : x = .bool b := h
    subst this
    simp
theorem DrawStep.run {A0 : Act} {Inv : (Nat → Bool) → (Nat → Value) → World → Prop} {i : Nat} {o : Oper} {j : Nat} {want : Bool} {t : Nat} (hg : o.guard = some (j, want)) (ht : (ops[j]?).bind (·.dst) = some t)
    (hj : (o.after.any fun e => decide (e.on = j) && Region.binds .any e) = true) (hv : ∀ L v w, Inv L v w → L j = true → v j = .bool want)
    (h : ∀ (L : Nat → Bool) (v : Nat → Value) (a : Act) (w : World), L i = false → (∀ e ∈ o.after, Region.binds .any e = true → L e.on = true) → Agree A0 ops L v a → Inv L v w →
      ∀ K' : Act → World → Prop, Shut (∀ x w', Inv (dIns L i) (dUpd v i x) w' → K' (a.put o.dst x) w') → Oper.wp P o a w K' Q) : DrawStep P ops Q A0 Inv i o := by
  intro L v a w h1 h2 h3 h4 K' hK
  rw [Array.any_eq_true'] at hj
  obtain ⟨e, he, hb⟩ := hj
  rw [Bool.and_eq_true, decide_eq_true_eq] at hb
  have hl : L j = true := hb.1 ▸ h2 e he hb.2
  rw [if_pos (by rw [wanted_at h3 hg ht hl (hv L v w h4 hl)]; simp)]
  exact h L v a w h1 h2 h3 h4 K' hK
theorem DrawStep.skip {A0 : Act} {Inv : (Nat → Bool) → (Nat → Value) → World → Prop} {i : Nat} {o : Oper} {j : Nat} {want : Bool} {t : Nat} (hg : o.guard = some (j, want)) (ht : (ops[j]?).bind (·.dst) = some t)
    (hj : (o.after.any fun e => decide (e.on = j) && Region.binds .any e) = true) (hv : ∀ L v w, Inv L v w → L j = true → v j = .bool (!want))
    (hi : ∀ L v w, L i = false → Inv L v w → Inv (dIns L i) (dUpd v i undef) w) : DrawStep P ops Q A0 Inv i o := by
  intro L v a w h1 h2 h3 h4 K' hK
  rw [Array.any_eq_true'] at hj
  obtain ⟨e, he, hb⟩ := hj
  rw [Bool.and_eq_true, decide_eq_true_eq] at hb
  have hl : L j = true := hb.1 ▸ h2 e he hb.2
  rw [if_neg (by rw [wanted_at h3 hg ht hl (hv L v w h4 hl)]; cases want <;> decide)]
  exact hK.out _ _ (hi L v w h1 h4)
theorem DrawStep.skipU {A0 : Act} {Inv : (Nat → Bool) → (Nat → Value) → World → Prop} {i : Nat} {o : Oper} {j : Nat} {want : Bool} {t : Nat} (hg : o.guard = some (j, want)) (ht : (ops[j]?).bind (·.dst) = some t)
    (hj : (o.after.any fun e => decide (e.on = j) && Region.binds .any e) = true) (hv : ∀ L v w, Inv L v w → L j = true → v j = undef)
    (hi : ∀ L v w, L i = false → Inv L v w → Inv (dIns L i) (dUpd v i undef) w) : DrawStep P ops Q A0 Inv i o := by
  intro L v a w h1 h2 h3 h4 K' hK
  rw [Array.any_eq_true'] at hj
  obtain ⟨e, he, hb⟩ := hj
  rw [Bool.and_eq_true, decide_eq_true_eq] at hb
  have hl : L j = true := hb.1 ▸ h2 e he hb.2
  have hw : Region.wanted o (yielded ops a.tmps) = false := by
    have h := h3.get j hl ht
    rw [hv L v w h4 hl] at h
    unfold Region.wanted
    rw [hg]
    show (yielded ops a.tmps j == some want) = _
    unfold yielded
    rw [ht]
    simp only [Option.bind_some]
    cases hx : a.tmps[t]? with
    | none => rfl
    | some x =>
      rw [hx] at h
      have : x = undef := h
      subst this
      rfl
  rw [if_neg (by rw [hw]; decide)]
  exact hK.out _ _ (hi L v w h1 h4)
end
end Go.Proofs.YtlccalkikjfimaaGreatDoor
