/- help.Equal at entries; Heap.Peek. -/
import Derived.Test.YtaphomilgoobiaaHeapA
namespace Go.Proofs.Ytaphomilgoobiaa
open Go.RowKit
open SP
section
variable {W w w' : World} {b : Nat} {cap : Int} {L : List (Int × Int)} {R : List SP}
def EqRel (n : Nat) (w : World) (v : Value) (wr : World) : Prop := ∃ (i q : Nat), v = .int .i64 (i : Int) ∧ i ≤ n ∧ wr = w.drewN q
set_option maxHeartbeats 800000 in
set_option maxRecDepth 100000 in
/-- Equal at two slices that hold the same entries. -/
theorem equal_spec {a1 a2 : Option Addr} {n c1 c2 : Nat} (hn : n = L.length) (hn2 : n ≤ 1000000) (o : Own w (slc 41 2 a1 n c1 (flat ent L) :: slc 41 2 a2 n c2 (flat ent L) :: R)) :
    Calls Try.prog 19 #[.slice a1 n c1, .slice a2 n c2] w (Ret (.bool true) (slc 41 2 a1 n c1 (flat ent L) :: slc 41 2 a2 n c2 (flat ent L) :: R) w) := by
  have HN := Lib.hid hn
  clear hn
  go_enter Try.func19, Try.ntmps19
  go_wp2
  go_loopw [5] (fun v wr => EqRel n w v wr) (fun v _ => n - (intOf v).toNat)
  case atStart => exact ⟨0, 0, rfl, by omega, rfl⟩
  case round =>
    obtain ⟨i, q, rfl, hi, rfl⟩ := hrel
    by_cases hlt : i < n
    · obtain ⟨⟨x, y⟩, hx⟩ : ∃ x, L[i]? = some x := ⟨_, List.getElem?_eq_getElem (by rw [← HN.out]; exact hlt)⟩
      obtain ⟨g1, hg1, d0, d1, -, -⟩ := ent_cells o hx (by omega)
      obtain ⟨g2, hg2, f0, f1, -, -⟩ := ent_cells (o.up 1) hx (by omega)
      subst hg1
      subst hg2
      go_wp2
      go_quiet (fail)
      go_wp2
      go_roundw
      case rel => exact ⟨i + 1, _, by go_num, by omega, rfl⟩
      case measure => simp [intOf]; omega
    · go_wp2
      go_ret
      exact ⟨rfl, o.drewN q, ⟨rfl, rfl, rfl⟩⟩
end
end Go.Proofs.Ytaphomilgoobiaa
