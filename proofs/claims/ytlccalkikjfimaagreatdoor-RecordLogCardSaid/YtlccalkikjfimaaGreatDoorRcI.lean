/- A parameter that is a record: what it holds. -/
import Derived.Test.YtlccalkikjfimaaGreatDoorRcP
import Derived.Test.YtlccalkikjfimaaGreatDoorProg
import Derived.ChangeSame
import Derived.ChangeArms
import Derived.WideShapes
namespace Go.Proofs.YtlccalkikjfimaaGreatDoor
open Go.RowKit Go.ChangeShapes Go.WideShapes
theorem rec_cells {H : Type} {enc : TypeId × Value → H} {W : World} {base : Nat} {spare : Nat → Bool} {held : Bool} {fuel : Nat} {cs : List Value} {x : DataW H × List MemPlace}
    (hf : DataW.trod enc Tryz.prog W base spare held fuel 39 cs = some x) : ∃ r : Rec, cs = recC r := by
  obtain ⟨xs, n, _, _, hl, hlen, hx⟩ := DataW.trod_struct Tryz.underlying39 hf
  have hl6 : cs.length = 6 := hl.trans (by kernel_rfl)
  have hlen6 : xs.length = 6 := hlen
  have key : ∀ (j : Nat) (f : Field) (T : TypeId), Tryz.prog.underlying T = some (.int .i64) → f.type = T → f.offset = j → Tryz.prog.cellsOf T = 1 → j < 6 → (∃ x, DataW.trod enc Tryz.prog W base spare held n f.type ((cs.drop f.offset).take (Tryz.prog.cellsOf f.type)) = some x) → ∃ y : Int, cs[j]? = some (.int .i64 y) := by
    rintro j f T hT rfl rfl hc hj ⟨x, hx⟩
    obtain ⟨y, hy, _⟩ := DataW.trod_int hT hx
    rw [hc] at hy
    refine ⟨y, ?_⟩
    have := congrArg (fun l => l[0]?) hy
    simp only [List.getElem?_take, List.getElem?_drop, Nat.add_zero, List.getElem?_cons_zero] at this
    simpa using this
  have get : ∀ (i : Nat), i < 6 → ∃ x, xs[i]? = some x := fun i hi => ⟨_, List.getElem?_eq_getElem (by omega)⟩
  obtain ⟨y0, h0⟩ := key 0 _ 3 Tryz.underlying3 rfl rfl (by kernel_rfl) (by omega) (by rw [hx 0 _ rfl]; exact get 0 (by omega))
  obtain ⟨y1, h1⟩ := key 1 _ 3 Tryz.underlying3 rfl rfl (by kernel_rfl) (by omega) (by rw [hx 1 _ rfl]; exact get 1 (by omega))
  obtain ⟨y2, h2⟩ := key 2 _ 3 Tryz.underlying3 rfl rfl (by kernel_rfl) (by omega) (by rw [hx 2 _ rfl]; exact get 2 (by omega))
  obtain ⟨y3, h3⟩ := key 3 _ 3 Tryz.underlying3 rfl rfl (by kernel_rfl) (by omega) (by rw [hx 3 _ rfl]; exact get 3 (by omega))
  obtain ⟨y4, h4⟩ := key 4 _ 3 Tryz.underlying3 rfl rfl (by kernel_rfl) (by omega) (by rw [hx 4 _ rfl]; exact get 4 (by omega))
  obtain ⟨y5, h5⟩ := key 5 _ 2 Tryz.underlying2 rfl rfl (by kernel_rfl) (by omega) (by rw [hx 5 _ rfl]; exact get 5 (by omega))
  refine ⟨⟨y0, y1, y2, y3, y4, y5⟩, ?_⟩
  apply List.ext_getElem?
  intro j
  by_cases hj : j < 6
  · match j, hj with
    | 0, _ => exact h0
    | 1, _ => exact h1
    | 2, _ => exact h2
    | 3, _ => exact h3
    | 4, _ => exact h4
    | 5, _ => exact h5
  · rw [List.getElem?_eq_none (by omega), List.getElem?_eq_none (by rw [recC_len]; omega)]
theorem rec_of_trod {H : Type} {enc : TypeId × Value → H} {W : World} {base : Nat} {spare : Nat → Bool} {held : Bool} {cs : Array Value} {d : DataW H} {p : List MemPlace}
    (h : DataW.Trod enc Tryz.prog W base spare held 39 (.agg cs) d p) : ∃ r : Rec, Value.agg cs = recV r := by
  obtain ⟨fuel, hf⟩ := h
  obtain ⟨r, hr⟩ := rec_cells hf
  have hcell : (Value.agg cs).cells = cs := rfl
  rw [hcell] at hr
  refine ⟨r, ?_⟩
  rw [show cs = cs.toList.toArray from rfl, hr]; rfl
end Go.Proofs.YtlccalkikjfimaaGreatDoor
