/- The generator: New and Int64. -/
import Derived.Test.YtaphomilgoobiaaGen
import Derived.Test.YtaphomilgoobiaaSlb
import Derived.Deep.RegionHeld3
import Derived.Lib.Hide
namespace Go.Proofs.Ytaphomilgoobiaa
open Go.RowKit
open SP
section
variable {W w w' : World} {R : List SP}

def tblL : List Int := [0, 1, -1, 2, 3, 7, -7, 10, 2147483648, -2147483648, 2147483649, 4611686018427387904, -4611686018427387904, 9223372036854775807, -9223372036854775808, -9223372036854775807, 4294967295, 3458764513820540928, 720720]
def tbl64 (j : Nat) : Int := tblL.getD j 0

def Int64Post (W : World) (b N : Nat) (R : List SP) (w : World) (e : Ending) (w' : World) : Prop :=
  ∃ x : Int, -9223372036854775808 ≤ x ∧ x ≤ 9223372036854775807 ∧ e = .returned (.int .i64 x) ∧ Own w' (Ch W b (N + 3) :: old W :: R) ∧ Calm w w'

theorem wrap64_range (x : Int) : -9223372036854775808 ≤ IntKind.i64.wrap x ∧ IntKind.i64.wrap x ≤ 9223372036854775807 := by
  rw [IntKind.wrap_i64]; omega

def TblAt (g : Nat) (w : World) : Prop := ∀ j, j < 19 → w.cell? ⟨g, j, none⟩ = some (.int .i64 (tbl64 j))
theorem tblAt {g : Nat} {T : TypeId} (o : Own w (cel g T (tblL.map (Value.int .i64)) :: R)) : TblAt g w := by
  intro j hj
  refine o.cell j ?_
  rw [List.getElem?_map]
  have h : j < tblL.length := hj
  unfold tbl64
  rw [List.getD_eq_getElem?_getD, List.getElem?_eq_getElem h]
  rfl
set_option maxHeartbeats 1600000 in
set_option maxRecDepth 100000 in
theorem int64_spec (b N : Nat) (hN : (N : Int) ≤ 900000000000) (o : Own w (Ch W b N :: old W :: R)) :
    Calls Try.prog 10 #[.pointer (some ⟨b, 0, none⟩)] w (Int64Post W b N R w) := by
  have o1 : Own (w.alloc (.cells (tblL.map (Value.int .i64)).toArray 2)) (cel w.heap.size 2 (tblL.map (Value.int .i64)) :: Ch W b N :: old W :: R) := o.alloc _
  have hT := tblAt o1
  have o2 := ((o1.up 2).up 2).drew
  go_enter Try.func10, Try.ntmps10
  go_wp2
  go_region_held3 (fun w' => ∀ j, j < 19 → w'.cell? ⟨w.heap.size, j, none⟩ = some (.int .i64 (tbl64 j))) (first | exact hT4 | exact hT3 | exact hT2 | exact hT) (first
    | (go_at_call 13; (with_reducible refine (next_spec W b N 19 _ _ (by omega) (by omega) (by omega) o2).mono ?_); rintro e2 w2 ⟨x, hx0, hx1, rfl, o3, k3⟩; have hT2 := tblAt (o3.up 2); have hxn : x.toNat < 19 := by omega)
    | (go_at_call 13; (with_reducible refine (next_spec W b (N + 1) 3 _ _ (by omega) (by omega) (by omega) o3).mono ?_); rintro e3 w3 ⟨y, hy0, hy1, rfl, o4, k4⟩; have hT3 := tblAt (o4.up 2))
    | (go_at_call 13; (with_reducible refine (next_spec W b (N + 2) 2 _ _ (by omega) (by omega) (by omega) o4).mono ?_); rintro e4 w4 ⟨z, hz0, hz1, rfl, o5, k5⟩; have hT4 := tblAt (o5.up 2)))
  go_wp2
  go_ret
  have hr := wrap64_range (tbl64 x.toNat + IntKind.i64.wrap (y * z))
  have K := (Calm.trans ⟨k3.os, k3.tape, k3.output⟩ k4 : Calm w w3).trans k5
  exact ⟨_, hr.1, hr.2, rfl, (o5.up 2).drop, K⟩
end
end Go.Proofs.Ytaphomilgoobiaa
