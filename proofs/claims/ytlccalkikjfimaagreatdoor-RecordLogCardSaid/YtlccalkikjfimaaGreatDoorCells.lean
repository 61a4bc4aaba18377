/- A whole struct stored: what is owned behind it. -/
import Derived.Test.YtlccalkikjfimaaGreatDoorSl
import Derived.Deep.MidRow
namespace Go.Proofs.YtlccalkikjfimaaGreatDoor
open Go.RowKit
open SP
section
variable {w w' : World} {R : List SP} {b : Nat} {T : TypeId}

theorem Own.setCells_from : ∀ (vs pre old : List Value) (w : World), old.length = vs.length → Own w (cel b T (pre ++ old) :: R) → Own (w.setCells b pre.length vs) (cel b T (pre ++ vs) :: R)
  | [], pre, old, w, h, o => by
    have : old = [] := List.eq_nil_of_length_eq_zero (by simpa using h)
    subst this
    exact o
  | v :: r, pre, [], w, h, o => by simp at h
  | v :: r, pre, x :: y, w, h, o => by
    have o1 := o.setCell pre.length v
    rw [List.set_append_right _ _ (Nat.le_refl _), Nat.sub_self, List.set_cons_zero] at o1
    have := Own.setCells_from r (pre ++ [v]) y _ (by simpa using h) (by simpa using o1)
    rw [World.setCells]
    simpa using this
theorem Own.setCells {old vs : List Value} (o : Own w (cel b T old :: R)) (h : old.length = vs.length) : Own (w.setCells b 0 vs) (cel b T vs :: R) :=
  Own.setCells_from vs [] old w h o
theorem Own.setCells_mid : ∀ (vs pre old post : List Value) (w : World), old.length = vs.length → Own w (cel b T (pre ++ old ++ post) :: R) → Own (w.setCells b pre.length vs) (cel b T (pre ++ vs ++ post) :: R)
  | [], pre, old, post, w, h, o => by
    have : old = [] := List.eq_nil_of_length_eq_zero (by simpa using h)
    subst this
    exact o
  | v :: r, pre, [], post, w, h, o => by simp at h
  | v :: r, pre, x :: y, post, w, h, o => by
    have o1 := o.setCell pre.length v
    rw [List.append_assoc, List.set_append_right _ _ (Nat.le_refl _), Nat.sub_self, List.cons_append, List.set_cons_zero] at o1
    have := Own.setCells_mid r (pre ++ [v]) y post _ (by simpa using h) (by simpa using o1)
    rw [World.setCells]
    simpa using this
/-- The first cells of a row stored anew. -/
theorem Own.setCells_pre {old vs post : List Value} (o : Own w (cel b T (old ++ post) :: R)) (h : old.length = vs.length) : Own (w.setCells b 0 vs) (cel b T (vs ++ post) :: R) :=
  Own.setCells_mid vs [] old post w h o
theorem Own.there {old : List Value} (o : Own w (cel b T old :: R)) {n : Nat} (h : n = old.length) : w.there b 0 n := fun j hj => by
  subst h
  refine ⟨?_, o.frozen _⟩
  rw [Nat.zero_add, o.cell j (List.getElem?_eq_getElem hj)]
  rfl
theorem Own.rangeAt {vs : List Value} (o : Own w (cel b T vs :: R)) : w.rangeAt b 0 vs := fun j v hv => by
  rw [Nat.zero_add, o.cell j hv]
theorem Calm.setCells (b : Nat) : ∀ (vs : List Value) (o : Nat) (w : World), Calm w (w.setCells b o vs)
  | [], _, w => Calm.refl w
  | v :: r, o, w => by
    rw [World.setCells]
    exact (⟨rfl, rfl, rfl⟩ : Calm w (w.setCell ⟨b, o, none⟩ v)).trans (Calm.setCells b r (o + 1) _)
end
end Go.Proofs.YtlccalkikjfimaaGreatDoor
