/- Names: label.Fold, by the shelf's contract of strings.Map; the lookups of names. -/
import Derived.Test.YtapingmjlpmmmaaDoorLabF
import Derived.Test.YtapingmjlpmmmaaDoorShelfM
import Derived.Test.YtapingmjlpmmmaaDoorBel
namespace Go.Proofs.YtapingmjlpmmmaaDoor
open Go.RowKit
open Go.Shelf
open SP
theorem Tryd.extraM : Builder.Extra Tryd.prog Tryd.laysMap_ren where
  sizeBuilder := by kernel_rfl
  liesBuilder := by kernel_rfl
  t5 := Tryd.laysMap.t5
  a5 := Tryd.laysMap.a5
  z5 := Tryd.laysMap.z5
  v5 := Tryd.laysMap.v5
  infoByte := by kernel_rfl
  cellsByte := by kernel_rfl
  sizeByte := by kernel_rfl
  neB5 := by decide

/-- The two tables of unicode/utf8, as their initialisers lay them. -/
def TabsW (w : World) : Prop := Lib.Utf8Tabs (Tryd.laysMap_ren.g 3) (Tryd.laysMap_ren.g 4) w
section
variable {W w w' : World} {R l : List SP}
theorem Own.tabs (hT : TabsW W) (o : Own w (old W :: R)) : TabsW w :=
  ⟨fun c hc => o.old_cell (hT.1 c hc), fun i hi => ⟨o.old_cell (hT.2 i hi).1, o.old_cell (hT.2 i hi).2⟩⟩

theorem fold_pays (w : World) : MapGrows Tryd.prog 35 #[] foldZ w := by
  intro W x hx _
  refine (fold_spec (w := W) x hx).mono ?_
  rintro e w' ⟨rfl, rfl⟩
  exact ⟨rfl, Below.refl _ _⟩
theorem foldZ_range (x : Nat) (hx : x ≤ 1114111) : -2147483648 ≤ foldZ x ∧ foldZ x ≤ 2147483647 := by
  unfold foldZ; split <;> omega

/-- The folded form of a name; of another string the empty one. -/
def foldS (s : ByteArray) : ByteArray := if nameB s.data.toList = true then ⟨(foldB s.data.toList).toArray⟩ else ⟨#[]⟩
def foldE (s : ByteArray) : Int := if nameB s.data.toList = true then 0 else 1

set_option maxHeartbeats 1600000 in
set_option maxRecDepth 100000 in
theorem labFold_spec (s : ByteArray) (hs : s.size ≤ 2000000) (hT : TabsW W) (o : Own w (old W :: R)) :
    Calls Tryd.prog 19 #[.string s] w (Ret (.tuple #[.string (foldS s), .int .i64 (foldE s)]) (old W :: R) w) := by
  have hval := valid_spec (w := w) s (by omega)
  unfold foldS foldE
  by_cases hb : nameB s.data.toList = true
  · rw [if_pos hb, if_pos hb]
    rw [hb] at hval
    go_enter Tryd.func19, Tryd.ntmps19
    go_wp2_with fail
    refine hval.mono ?_
    rintro e1 w1 ⟨rfl, pos, rfl⟩
    clear hval
    have o1 : Own (w.iter s pos) (old W :: R) := o.more _
    have hM := Any.strings_Map_grows Tryd.laysMap Tryd.extraM 35 #[] (enters_of Tryd.func35 (by kernel_rfl) rfl) foldZ s (w.iter s pos) (by omega) (fold_pays _) foldZ_range (Own.tabs hT o1)
    rw [mapD_fold] at hM
    go_wp2_with fail
    refine hM.mono ?_
    rintro e2 w2 ⟨rfl, hbel⟩
    clear hM
    go_wp2
    go_ret2
    exact ⟨rfl, o1.keepBelow hbel, Calm.trans (b := w.iter s pos) ⟨rfl, rfl, rfl⟩ (Calm.ofBelow hbel)⟩
  · rw [if_neg hb, if_neg hb]
    have hb' : nameB s.data.toList = false := by simpa using hb
    rw [hb'] at hval
    go_enter Tryd.func19, Tryd.ntmps19
    go_wp2_with fail
    refine hval.mono ?_
    rintro e1 w1 ⟨rfl, pos, rfl⟩
    clear hval
    go_wp2
    go_ret2
    exact ⟨rfl, o.more _, ⟨rfl, rfl, rfl⟩⟩
end
end Go.Proofs.YtapingmjlpmmmaaDoor
