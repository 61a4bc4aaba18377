/- Drawn regions whose values are known by their kinds. -/
import Derived.Test.YtlccalkikjfimaaGreatDoorDrawV
namespace Go.Proofs.YtlccalkikjfimaaGreatDoor
open Go.RowKit
/-- What has been done has values of these kinds. -/
def PVals (f : Nat → Value → Prop) (L : Nat → Bool) (v : Nat → Value) : Prop := ∀ i, L i = true → f i (v i)
theorem PVals.no {f : Nat → Value → Prop} {v : Nat → Value} : PVals f (fun _ => false) v := fun _ h => (Bool.false_ne_true h).elim
theorem PVals.put {f : Nat → Value → Prop} {L : Nat → Bool} {v : Nat → Value} (h : PVals f L v) (i : Nat) {x : Value} (hx : f i x) : PVals f (dIns L i) (dUpd v i x) := fun j hj => by
  unfold dUpd
  split
  · rename_i e; subst e; exact hx
  · rename_i e
    unfold dIns at hj
    rw [if_neg e] at hj
    exact h j hj
def strP (n : Nat) (x : Value) : Prop := ∃ s : ByteArray, s.size ≤ n ∧ x = .string s
def anyP (_ : Value) : Prop := True
end Go.Proofs.YtlccalkikjfimaaGreatDoor
