/- A parameter that is a slice of parts: what it holds. -/
import Derived.Test.YtnandakoigmknaaCompB
import Derived.Deep.SlicePairs
import Derived.ChangeArms
namespace Go.Proofs.Ytnandakoigmknaa
open Go.RowKit Go.ChangeShapes Go.WideShapes
open SP
theorem add_spot {w : World} {a : Addr} {i : Nat} {v : Value} (h : w.cell? (a.add i) = some v) (h0 : ∃ u, w.cell? (a.add 0) = some u) : ∃ g so, a = ⟨g, so, none⟩ ∧ w.cell? ⟨g, so + i, none⟩ = some v := by
  obtain ⟨g, so, sp⟩ := a
  cases sp with
  | none =>
    have e : (⟨g, so, none⟩ : Addr).add i = ⟨g, so + i, none⟩ := by unfold Addr.add; split <;> simp_all
    rw [e] at h
    exact ⟨g, so, rfl, h⟩
  | some s =>
    obtain ⟨u, hu⟩ := h0
    have e : (⟨g, so, some s⟩ : Addr).add 0 = ⟨g, so, some s⟩ := rfl
    rw [e] at hu
    unfold World.cell? at hu
    split at hu <;> simp at hu
theorem parts_of_trod {H : Type} {enc : TypeId × Value → H} {W : World} {base : Nat} {spare : Nat → Bool} {held : Bool} {a : Option Addr} {n c : Nat} {d : DataW H} {p : List MemPlace}
    (h : DataW.Trod enc Try.prog W base spare held 31 (.slice a n c) d p) : ∃ L : List (Int × Int), PartsAt (old W) a L ∧ n = L.length ∧ n ≤ 9223372036854775807 := by
  obtain ⟨fuel, hf⟩ := h
  rcases Go.Deep.open_slice_pairs Try.underlying31 Try.underlying40 (by kernel_rfl) (by kernel_rfl) (by kernel_rfl) (by kernel_rfl) (by kernel_rfl) hf with ⟨hcs, _⟩ | ⟨x, l, cap, m, k, V0, V1, D0, D1, P0, P1, hcs, hb, hl, hm, hmm, hx, hi⟩
  · simp [Value.cells] at hcs
    obtain ⟨rfl, rfl, rfl⟩ := hcs
    exact ⟨[], fun w R o i y hy => by simp at hy, rfl, by omega⟩
  · simp [Value.cells] at hcs
    obtain ⟨rfl, rfl, rfl⟩ := hcs
    have hlm : n ≤ m := by rw [hmm]; split <;> omega
    have hint : ∀ i, i < n → ∃ x0 x1 : Int, W.cell? (x.add (i * 2)) = some (.int .i64 x0) ∧ W.cell? (x.add (i * 2 + 1)) = some (.int .i64 x1) := by
      intro i hin
      obtain ⟨e0, e1, t0, t1⟩ := hi i (by omega)
      obtain ⟨y0, h0, -, -⟩ := DataW.trod_int Try.underlying3 t0
      obtain ⟨y1, h1, -, -⟩ := DataW.trod_int Try.underlying2 t1
      simp only [List.cons.injEq, and_true] at h0 h1
      rw [h0] at e0
      rw [h1] at e1
      exact ⟨y0, y1, e0, e1⟩
    obtain ⟨f, hfn⟩ : ∃ f : Nat → Int × Int, ∀ i, i < n → W.cell? (x.add (i * 2)) = some (.int .i64 (f i).1) ∧ W.cell? (x.add (i * 2 + 1)) = some (.int .i64 (f i).2) :=
      Go.Deep.choose_lt (p := fun i (q : Int × Int) => W.cell? (x.add (i * 2)) = some (.int .i64 q.1) ∧ W.cell? (x.add (i * 2 + 1)) = some (.int .i64 q.2)) (fun i hin => by obtain ⟨x0, x1, h⟩ := hint i hin; exact ⟨(x0, x1), h⟩)
    refine ⟨(List.range n).map f, ?_, by simp, by have h2 : maxLen = 9223372036854775807 := rfl; omega⟩
    intro w R o i y hy
    have hin : i < n := by have := (List.getElem?_eq_some_iff.1 hy).1; simpa using this
    have hy2 : f i = y := by simpa [List.getElem?_map, List.getElem?_range hin] using hy
    obtain ⟨e0, e1⟩ := hfn i hin
    rw [hy2] at e0 e1
    have hz := (hfn 0 (by omega)).1
    obtain ⟨g, so, rfl, c0⟩ := add_spot e0 ⟨_, by simpa using hz⟩
    obtain ⟨g', so', hg, c1⟩ := add_spot e1 ⟨_, by simpa using hz⟩
    obtain ⟨rfl, rfl⟩ : g = g' ∧ so = so' := by simpa using hg
    exact ⟨g, so, rfl, o.old_cell c0, by rw [Nat.add_assoc]; exact o.old_cell c1⟩
end Go.Proofs.Ytnandakoigmknaa
