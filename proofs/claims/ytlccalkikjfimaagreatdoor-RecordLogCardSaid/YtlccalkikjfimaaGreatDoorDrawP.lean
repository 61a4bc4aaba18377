/- Drawn regions that make one struct and store it last. -/
import Derived.Test.YtlccalkikjfimaaGreatDoorDrawG
namespace Go.Proofs.YtlccalkikjfimaaGreatDoor
open Go.RowKit
open SP
/-- The struct of a region: not made yet, made (cells zs), stored (cells ys). -/
def Pb (la ls : Bool) (v : Value) (T : TypeId) (zs ys : List Value) : SP :=
  st [pu (ls = true → la = true), if la = true then ex fun (g : Nat) => st [pu (v = .pointer (some ⟨g, 0, none⟩)), cel g T (if ls = true then ys else zs)] else pu True]
section
variable {w w' : World} {R : List SP} {v : Value} {T : TypeId} {zs ys : List Value}
theorem Pb.no (o : Own w R) : Own w (Pb false false v T zs ys :: R) := by
  unfold Pb
  rw [if_neg Bool.false_ne_true]
  exact Own.st.2 (Own.pu.2 ⟨fun h => h, Own.pu.2 ⟨trivial, o⟩⟩)
theorem Pb.new {ls : Bool} (o : Own w (Pb false ls v T zs ys :: R)) : Own (w.alloc (.cells zs.toArray T)) (Pb true ls (.pointer (some ⟨w.heap.size, 0, none⟩)) T zs ys :: R) := by
  unfold Pb at o ⊢
  obtain ⟨h, o⟩ := Own.pu.1 (Own.st.1 o)
  have hls : ls = false := by
    cases ls with
    | false => rfl
    | true => exact absurd (h rfl) Bool.false_ne_true
  subst hls
  rw [if_neg Bool.false_ne_true] at o
  rw [if_pos rfl, if_neg Bool.false_ne_true]
  exact Own.st.2 (Own.pu.2 ⟨fun _ => rfl, Own.ex.2 ⟨w.heap.size, Own.st.2 (Own.pu.2 ⟨rfl, (Own.pu.1 o).2.alloc _⟩)⟩⟩)
theorem Pb.val (o : Own w (Pb true false v T zs ys :: R)) : ∃ g : Nat, v = .pointer (some ⟨g, 0, none⟩) ∧ Own w (cel g T zs :: R) := by
  unfold Pb at o
  obtain ⟨_, o⟩ := Own.pu.1 (Own.st.1 o)
  rw [if_pos rfl, if_neg Bool.false_ne_true] at o
  obtain ⟨g, o⟩ := Own.ex.1 o
  obtain ⟨h, o⟩ := Own.pu.1 (Own.st.1 o)
  exact ⟨g, h, o⟩
theorem Pb.set {g : Nat} (o : Own w (cel g T ys :: R)) : Own w (Pb true true (.pointer (some ⟨g, 0, none⟩)) T zs ys :: R) := by
  unfold Pb
  rw [if_pos rfl, if_pos rfl]
  exact Own.st.2 (Own.pu.2 ⟨fun _ => rfl, Own.ex.2 ⟨g, Own.st.2 (Own.pu.2 ⟨rfl, o⟩)⟩⟩)
theorem Pb.put {g : Nat} {l : Bool} (o : Own w (cel g T ys :: R)) (hl : l = true) (hv : v = .pointer (some ⟨g, 0, none⟩)) : Own w (Pb l true v T zs ys :: R) := by
  subst hl
  subst hv
  exact Pb.set o
theorem Pb.got (o : Own w (Pb true true v T zs ys :: R)) : ∃ g : Nat, v = .pointer (some ⟨g, 0, none⟩) ∧ Own w (cel g T ys :: R) := by
  unfold Pb at o
  obtain ⟨_, o⟩ := Own.pu.1 (Own.st.1 o)
  rw [if_pos rfl, if_pos rfl] at o
  obtain ⟨g, o⟩ := Own.ex.1 o
  obtain ⟨h, o⟩ := Own.pu.1 (Own.st.1 o)
  exact ⟨g, h, o⟩
end
end Go.Proofs.YtlccalkikjfimaaGreatDoor
