/- The generator of choices: Name. -/
import Derived.Test.YtbldanhjbnpdiaaDoorGenW
namespace Go.Proofs.YtbldanhjbnpdiaaDoor
open Go.RowKit
open SP
section
variable {W w w' : World} {R : List SP} {b : Nat}
def nmList : List ByteArray := [⟨#[97]⟩, ⟨#[97, 110, 110]⟩, ⟨#[65, 110, 110]⟩, ⟨#[65, 78, 78]⟩, ⟨#[98, 45, 49]⟩, ⟨#[195, 132, 98]⟩, ⟨#[195, 164, 98]⟩, ⟨#[206, 145, 120]⟩, ⟨#[206, 177, 120]⟩, ⟨#[97, 46, 98, 95, 99]⟩, ⟨#[195, 151]⟩, ⟨#[122, 57]⟩, ⟨#[]⟩, ⟨#[97, 32, 98]⟩, ⟨#[97, 42]⟩, ⟨#[255]⟩, ⟨#[239, 191, 189]⟩,
  ⟨#[97, 97, 97, 97, 97, 97, 97, 97, 97, 97, 97, 97, 97, 97, 97, 97, 97, 97, 97, 97, 97, 97, 97, 97]⟩, ⟨#[97, 97, 97, 97, 97, 97, 97, 97, 97, 97, 97, 97, 97, 97, 97, 97, 97, 97, 97, 97, 97, 97, 97, 97, 97]⟩, ⟨#[240, 159, 152, 128]⟩]
set_option maxHeartbeats 800000 in
theorem genName_spec (N : Nat) (hN : (N : Int) ≤ 900000000000) (o : Own w (Ch W b N :: old W :: R)) :
    Calls Tryd.prog 8 #[.pointer (some ⟨b, 0, none⟩)] w fun e w' => ∃ s : ByteArray, s.size ≤ 25 ∧ e = .returned (.string s) ∧ Own w' (Ch W b (N + 1) :: old W :: R) ∧ Calm w w' := by
  have o1 : Own (w.alloc (.cells (nmList.map Value.string).toArray 9)) (cel w.heap.size 9 (nmList.map Value.string) :: Ch W b N :: old W :: R) := o.alloc _
  have o2 := (o1.up 2).up 2
  go_enter Tryd.func8, Tryd.ntmps8
  go_wp2_with fail
  refine (next_spec W b N 20 _ _ (by omega) (by omega) (by omega) o2).mono ?_
  rintro e2 w2 ⟨x, hx0, hx1, rfl, o3, k3⟩
  obtain ⟨j, rfl⟩ : ∃ j : Nat, x = (j : Int) := ⟨x.toNat, by omega⟩
  have hj : j < nmList.length := by show j < 20; omega
  have c := Own.cell (v := .string nmList[j]) (o3.up 2) j (by rw [List.getElem?_map, List.getElem?_eq_getElem hj]; rfl)
  have hr : nmList[j].size ≤ 25 := by
    have : ∀ y ∈ nmList, y.size ≤ 25 := by decide
    exact this _ (List.getElem_mem hj)
  generalize nmList[j] = y at *
  go_wp2
  go_ret
  exact ⟨y, hr, rfl, (o3.up 2).drop, ⟨k3.os, k3.tape, k3.output⟩⟩
end
end Go.Proofs.YtbldanhjbnpdiaaDoor
