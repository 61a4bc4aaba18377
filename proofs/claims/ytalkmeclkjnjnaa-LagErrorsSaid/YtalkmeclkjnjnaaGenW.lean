/- The generator of choices: Weight. -/
import Derived.Test.YtalkmeclkjnjnaaGen
import Derived.Test.YtalkmeclkjnjnaaRe
namespace Go.Proofs.Ytalkmeclkjnjnaa
open Go.RowKit
open SP
section
variable {W w w' : World} {R : List SP} {b : Nat}
def wtList : List Int := [1, 2, 1, 3, 4, 16, 7, 1, 5]
set_option maxHeartbeats 800000 in
theorem genWeight_spec (N : Nat) (hN : (N : Int) ≤ 900000000000) (o : Own w (Ch W b N :: old W :: R)) :
    Calls Try.prog 10 #[.pointer (some ⟨b, 0, none⟩)] w fun e w' => ∃ x : Int, 1 ≤ x ∧ x ≤ 16 ∧ e = .returned (.int .i64 x) ∧ Own w' (Ch W b (N + 1) :: old W :: R) ∧ Calm w w' := by
  have o1 : Own (w.alloc (.cells (wtList.map (Value.int .i64)).toArray 3)) (cel w.heap.size 3 (wtList.map (Value.int .i64)) :: Ch W b N :: old W :: R) := o.alloc _
  have o2 := (o1.up 2).up 2
  go_enter Try.func10, Try.ntmps10
  go_wp2_with fail
  refine (next_spec W b N 9 _ _ (by omega) (by omega) (by omega) o2).mono ?_
  rintro e2 w2 ⟨x, hx0, hx1, rfl, o3, k3⟩
  obtain ⟨j, rfl⟩ : ∃ j : Nat, x = (j : Int) := ⟨x.toNat, by omega⟩
  have hj : j < wtList.length := by show j < 9; omega
  have c := Own.cell (v := .int .i64 wtList[j]) (o3.up 2) j (by rw [List.getElem?_map, List.getElem?_eq_getElem hj]; rfl)
  have hr : 1 ≤ wtList[j] ∧ wtList[j] ≤ 16 := by
    have : ∀ y ∈ wtList, 1 ≤ y ∧ y ≤ 16 := by decide
    exact this _ (List.getElem_mem hj)
  generalize wtList[j] = y at *
  go_wp2
  go_ret
  exact ⟨y, hr.1, hr.2, rfl, (o3.up 2).drop, ⟨k3.os, k3.tape, k3.output⟩⟩

theorem Ch.upTo {N M : Nat} (h : N ≤ M) (o : Own w (Ch W b N :: R)) : Own w (Ch W b M :: R) := by
  obtain ⟨a, len, cap, zs, at_, h1, h2, h3, o1⟩ := Ch.open o
  exact Ch.shut h1 h2 (by omega) o1
end
end Go.Proofs.Ytalkmeclkjnjnaa
