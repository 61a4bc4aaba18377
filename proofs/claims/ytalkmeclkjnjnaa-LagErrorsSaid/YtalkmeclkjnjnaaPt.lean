/- Lists of parts, read behind whatever holds them. -/
import Derived.Test.YtalkmeclkjnjnaaProg
import Derived.Test.YtalkmeclkjnjnaaCom
namespace Go.Proofs.Ytalkmeclkjnjnaa
open Go.RowKit
open SP
section
variable {w w' : World} {R : List SP}
def part (p : Int × Int) : List Value := [.int .i64 p.1, .int .i64 p.2]
theorem part_len (p : Int × Int) : (part p).length = 2 := rfl
theorem Try.partT : ElemT Try.prog 28 34 2 16 := ElemT.mk' (z := .agg #[.int .i64 0, .int .i64 0]) Try.underlying28 (by kernel_rfl) rfl (by decide)

theorem part_cells {l : List (Int × Int)} {a : Option Addr} {n c : Nat} (o : Own w (slc 34 2 a n c (flat part l) :: R)) {i : Nat} {y : Int × Int} (hy : l[i]? = some y) (hn : 0 < n) :
    ∃ g, a = some ⟨g, 0, none⟩ ∧ w.cell? ⟨g, i * 2, none⟩ = some (.int .i64 y.1) ∧ w.cell? ⟨g, i * 2 + 1, none⟩ = some (.int .i64 y.2) := by
  obtain ⟨g, h, hc, hf, hg⟩ := o.slc_cell hn
  exact ⟨g, h, by simpa using hc (i * 2 + 0) _ (flat_get part_len l i 0 y hy (by omega)), hc (i * 2 + 1) _ (flat_get part_len l i 1 y hy (by omega))⟩

theorem drop_cons {α : Type} {l : List α} {i : Nat} {x : α} (h : l[i]? = some x) : l.drop i = x :: l.drop (i + 1) := by
  obtain ⟨h1, h2⟩ := List.getElem?_eq_some_iff.1 h
  rw [List.drop_eq_getElem_cons h1, h2]

/-- The list of parts that a slice at a holds, read behind S. -/
def PartsAt (S : SP) (a : Option Addr) (l : List (Int × Int)) : Prop := ∀ (w : World) (R : List SP), Own w (S :: R) → ∀ (i : Nat) (y : Int × Int), l[i]? = some y →
  ∃ g so, a = some ⟨g, so, none⟩ ∧ w.cell? ⟨g, so + i * 2, none⟩ = some (.int .i64 y.1) ∧ w.cell? ⟨g, so + i * 2 + 1, none⟩ = some (.int .i64 y.2)
theorem partsAt_slc (a : Option Addr) (n c : Nat) (l : List (Int × Int)) (hn : n = l.length) : PartsAt (slc 34 2 a n c (flat part l)) a l := by
  intro w R o i y hy
  have := (List.getElem?_eq_some_iff.1 hy).1
  obtain ⟨g, h1, h2, h3⟩ := part_cells o hy (by omega)
  exact ⟨g, 0, h1, by rw [Nat.zero_add]; exact h2, by rw [Nat.zero_add]; exact h3⟩

end
end Go.Proofs.Ytalkmeclkjnjnaa
