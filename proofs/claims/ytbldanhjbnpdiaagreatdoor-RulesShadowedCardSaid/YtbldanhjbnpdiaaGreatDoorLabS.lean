/- Names: label.Fold, by the shelf's contract of strings.Map; the lookups of names. -/
import Derived.Test.YtbldanhjbnpdiaaGreatDoorLabF
import Derived.Test.YtbldanhjbnpdiaaGreatDoorShelfM
import Derived.Test.YtbldanhjbnpdiaaGreatDoorBel
namespace Go.Proofs.YtbldanhjbnpdiaaGreatDoor
open Go.RowKit
open Go.Shelf
open SP
theorem Tryz.extraM : Builder.Extra Tryz.prog Tryz.laysMap_ren where
  sizeBuilder := by kernel_rfl
  liesBuilder := by kernel_rfl
  t5 := Tryz.laysMap.t5
  a5 := Tryz.laysMap.a5
  z5 := Tryz.laysMap.z5
  v5 := Tryz.laysMap.v5
  infoByte := by kernel_rfl
  cellsByte := by kernel_rfl
  sizeByte := by kernel_rfl
  neB5 := by decide

/-- The two tables of unicode/utf8, as their initialisers lay them. -/
def TabsW (w : World) : Prop := Lib.Utf8Tabs (Tryz.laysMap_ren.g 3) (Tryz.laysMap_ren.g 4) w
section
variable {W w w' : World} {R l : List SP}
theorem Own.tabs (hT : TabsW W) (o : Own w (old W :: R)) : TabsW w :=
  ⟨fun c hc => o.old_cell (hT.1 c hc), fun i hi => ⟨o.old_cell (hT.2 i hi).1, o.old_cell (hT.2 i hi).2⟩⟩

theorem fold_pays (w : World) : MapGrows Tryz.prog 42 #[] foldZ w := by
  intro W x hx _
  refine (fold_spec (w := W) x hx).mono ?_
  rintro e w' ⟨rfl, rfl⟩
  exact ⟨rfl, Below.refl _ _⟩
theorem foldZ_range (x : Nat) (hx : x ≤ 1114111) : -2147483648 ≤ foldZ x ∧ foldZ x ≤ 2147483647 := by
  unfold foldZ; split <;> omega

/-- The folded form of a name; of another string the empty one. -/
def foldS (s : ByteArray) : ByteArray := if nameB s.data.toList = true then ⟨(foldB s.data.toList).toArray⟩ else ⟨#[]⟩
def foldE (s : ByteArray) : Int := if nameB s.data.toList = true then 0 else 1

end
end Go.Proofs.YtbldanhjbnpdiaaGreatDoor
