/- What a contract leaves below; package-level variables behind what was there. -/
import Derived.Test.YtlccalkikjfimaaGreatDoorCom
import Derived.WalkSmall
import Derived.Sort.Grow
namespace Go.Proofs.YtlccalkikjfimaaGreatDoor
open Go.RowKit
open SP
section
variable {W w w' : World} {R l : List SP}
/-- What lies below stays owned. -/
theorem Own.keepBelow (o : Own w l) (h : Below w.heap.size w w') : Own w' l := by
  obtain ⟨σ, hs, hw⟩ := o
  exact ⟨σ, hs, fun k x hk => by rw [h.block k (Array.getElem?_eq_some_iff.1 (hw k x hk)).1]; exact hw k x hk⟩
theorem Calm.ofBelow {n : Nat} (h : Below n w w') : Calm w w' := ⟨h.os, h.tape, h.output⟩
theorem below_grow (w : World) (k : Nat) (os : Array Obj) : Below w.heap.size w (Go.Sort.grow (w.drewN k) os) := by
  refine ⟨rfl, rfl, rfl, by rw [Go.Sort.size_grow]; exact Nat.le_add_right _ _, fun j hj => ?_⟩
  show ((w.drewN k).heap ++ os)[j]? = w.heap[j]?
  rw [Array.getElem?_append_left (by exact hj)]; rfl
/-- A package-level variable that was there reads on. -/
theorem Own.var {P : Program} {n : String} {g : Nat} {cs : Array Value} (hg : P.globalNamed n = some g) (hW : W.var? P n = some cs) (o : Own w (old W :: R)) : w.var? P n = some cs := by
  unfold World.var? at hW ⊢
  simp only [hg, Option.bind_some] at hW ⊢
  have hlt : g < W.heap.size := by
    rcases Nat.lt_or_ge g W.heap.size with h | h
    · exact h
    · rw [Array.getElem?_eq_none h] at hW; cases hW
  rw [o.old_get hlt]; exact hW
end
end Go.Proofs.YtlccalkikjfimaaGreatDoor
