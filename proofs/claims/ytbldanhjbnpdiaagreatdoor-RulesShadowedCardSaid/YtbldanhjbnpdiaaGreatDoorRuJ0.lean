/- Rules: the two texts of 'awake' (for the seat without the reference's ParseRule). -/
import Derived.Test.YtbldanhjbnpdiaaGreatDoorRuG
namespace Go.Proofs.YtbldanhjbnpdiaaGreatDoor
open Go.RowKit
open Go.Shelf
open SP
section
variable {W w w' : World} {R : List SP}
theorem parse_awake1 : parseR [65, 110, 110, 32, 51, 32, 56, 48, 45, 57, 48, 32, 62, 50] = (⟨[65, 110, 110], 3, 80, 90, 2⟩, 0) := by kernel_rfl
theorem parse_awake2 : parseR [97, 32, 48, 51, 32, 42, 32, 62, 49] = (ru0, 8) := by kernel_rfl
set_option maxHeartbeats 6400000 in
set_option maxRecDepth 100000 in
theorem awake9_spec (hm : MaxV W) (o : Own w (old W :: R)) : Calls Tryz.prog 12 #[] w (Ret (.bool true) (old W :: R) w) := by
  have h1 := ruParse_spec ⟨#[65, 110, 110, 32, 51, 32, 56, 48, 45, 57, 48, 32, 62, 50]⟩ (by decide) hm o
  have h2 := Lib.hid fun (w1 : World) (R1 : List SP) (o1 : Own w1 (old W :: R1)) => ruParse_spec ⟨#[97, 32, 48, 51, 32, 42, 32, 62, 49]⟩ (by decide) hm o1
  have e1 : parseR (⟨#[65, 110, 110, 32, 51, 32, 56, 48, 45, 57, 48, 32, 62, 50]⟩ : ByteArray).data.toList = _ := parse_awake1
  have e2 : parseR (⟨#[97, 32, 48, 51, 32, 42, 32, 62, 49]⟩ : ByteArray).data.toList = _ := parse_awake2
  rw [e1] at h1
  rw [e2] at h2
  clear e1 e2
  unfold prV ruV ru0 at h2
  unfold prV ruV at h1
  dsimp only at h1 h2
  have hA : mkB [65, 110, 110] = ⟨#[65, 110, 110]⟩ := rfl
  rw [hA] at h1
  rw [mkB_nil] at h2
  clear hA
  go_enter Tryz.func12, Tryz.ntmps12
  go_wp2_with fail
  refine h1.mono ?_
  rintro e1 w1 ⟨rfl, o1, k1⟩
  have o2 := (o1.alloc (.cells #[.string ⟨#[65, 110, 110]⟩, .int .i64 3, .int .i64 80, .int .i64 90, .int .i64 2] 24)).up 1
  go_wp2_with fail
  refine (h2.out _ _ o2).mono ?_
  rintro e2 w2 ⟨rfl, o3, k2⟩
  generalize w1.heap.size = bx at *
  have o4 := o3.up 1
  have x0 := o4.cell 0
  have x1 := o4.cell 1
  have x2 := o4.cell 2
  have x3 := o4.cell 3
  have x4 := o4.cell 4
  have xl := Own.celLt (T := 24) o4
  go_wp2
  go_ret
  exact ⟨by simp, (o4.drop.more _), k1.trans ⟨k2.os, k2.tape, k2.output⟩⟩
end
end Go.Proofs.YtbldanhjbnpdiaaGreatDoor
