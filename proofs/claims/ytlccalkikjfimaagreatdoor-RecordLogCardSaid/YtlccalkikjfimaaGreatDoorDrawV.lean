/- Drawn regions whose operations all give values that can be named beforehand. -/
import Derived.Test.YtlccalkikjfimaaGreatDoorDraw
namespace Go.Proofs.YtlccalkikjfimaaGreatDoor
open Go.RowKit
open SP
/-- What has been done gives these values. -/
def Vals (f : Nat → Value) (L : Nat → Bool) (v : Nat → Value) : Prop := ∀ i, L i = true → v i = f i
theorem Vals.no {f : Nat → Value} {v : Nat → Value} : Vals f (fun _ => false) v := fun _ h => (Bool.false_ne_true h).elim
theorem Vals.put {f : Nat → Value} {L : Nat → Bool} {v : Nat → Value} (h : Vals f L v) (i : Nat) {x : Value} (hx : x = f i) : Vals f (dIns L i) (dUpd v i x) := fun j hj => by
  unfold dUpd
  split
  · rename_i e; rw [e]; exact hx
  · rename_i e
    unfold dIns at hj
    rw [if_neg e] at hj
    exact h j hj
/-- The same, where of some nothing is said. -/
def OVals (f : Nat → Option Value) (L : Nat → Bool) (v : Nat → Value) : Prop := ∀ i x, f i = some x → L i = true → v i = x
theorem OVals.no {f : Nat → Option Value} {v : Nat → Value} : OVals f (fun _ => false) v := fun _ _ _ h => (Bool.false_ne_true h).elim
theorem OVals.put {f : Nat → Option Value} {L : Nat → Bool} {v : Nat → Value} (h : OVals f L v) (i : Nat) {x : Value} (hx : ∀ y, f i = some y → x = y) : OVals f (dIns L i) (dUpd v i x) := fun j y hy hj => by
  unfold dUpd
  split
  · rename_i e; subst e; exact hx y hy
  · rename_i e
    unfold dIns at hj
    rw [if_neg e] at hj
    exact h j y hy hj
theorem some_eq {x y : Value} (h : some x = some y) : x = y := Option.some.inj h
end Go.Proofs.YtlccalkikjfimaaGreatDoor
