/- Parameters that are rules and headers: what they hold. -/
import Derived.Test.YtbldanhjbnpdiaaGreatDoorRuS
import Derived.ChangeSame
import Derived.ChangeArms
import Derived.WideShapes
namespace Go.Proofs.YtbldanhjbnpdiaaGreatDoor
open Go.RowKit Go.ChangeShapes Go.WideShapes
theorem ru_cells {H : Type} {enc : TypeId × Value → H} {W : World} {base : Nat} {spare : Nat → Bool} {held : Bool} {fuel : Nat} {cs : List Value} {x : DataW H × List MemPlace}
    (hf : DataW.trod enc Tryz.prog W base spare held fuel 24 cs = some x) : ∃ r : Ru, cs = ruC r := by
  obtain ⟨xs, n, _, _, hl, hlen, hx⟩ := DataW.trod_struct Tryz.underlying24 hf
  have hl5 : cs.length = 5 := hl.trans (by kernel_rfl)
  have hlen5 : xs.length = 5 := hlen
  have key : ∀ (j : Nat) (f : Field), f.type = 3 → f.offset = j → j < 5 → (∃ x, DataW.trod enc Tryz.prog W base spare held n f.type ((cs.drop f.offset).take (Tryz.prog.cellsOf f.type)) = some x) → ∃ y : Int, cs[j]? = some (.int .i64 y) := by
    rintro j f hty rfl hj ⟨x, hx⟩
    rw [hty] at hx
    obtain ⟨y, hy, _⟩ := DataW.trod_int Tryz.underlying3 hx
    rw [show Tryz.prog.cellsOf 3 = 1 by kernel_rfl] at hy
    refine ⟨y, ?_⟩
    have := congrArg (fun l => l[0]?) hy
    simp only [List.getElem?_take, List.getElem?_drop, Nat.add_zero, List.getElem?_cons_zero] at this
    simpa using this
  have keyS : ∀ (j : Nat) (f : Field), f.type = 9 → f.offset = j → j < 5 → (∃ x, DataW.trod enc Tryz.prog W base spare held n f.type ((cs.drop f.offset).take (Tryz.prog.cellsOf f.type)) = some x) → ∃ y : ByteArray, cs[j]? = some (.string y) := by
    rintro j f hty rfl hj ⟨x, hx⟩
    rw [hty] at hx
    obtain ⟨y, hy, _⟩ := DataW.trod_string Tryz.underlying9 hx
    rw [show Tryz.prog.cellsOf 9 = 1 by kernel_rfl] at hy
    refine ⟨y, ?_⟩
    have := congrArg (fun l => l[0]?) hy
    simp only [List.getElem?_take, List.getElem?_drop, Nat.add_zero, List.getElem?_cons_zero] at this
    simpa using this
  have get : ∀ (i : Nat), i < 5 → ∃ x, xs[i]? = some x := fun i hi => ⟨_, List.getElem?_eq_getElem (by omega)⟩
  obtain ⟨y0, h0⟩ := keyS 0 _ rfl rfl (by omega) (by rw [hx 0 _ rfl]; exact get 0 (by omega))
  obtain ⟨y1, h1⟩ := key 1 _ rfl rfl (by omega) (by rw [hx 1 _ rfl]; exact get 1 (by omega))
  obtain ⟨y2, h2⟩ := key 2 _ rfl rfl (by omega) (by rw [hx 2 _ rfl]; exact get 2 (by omega))
  obtain ⟨y3, h3⟩ := key 3 _ rfl rfl (by omega) (by rw [hx 3 _ rfl]; exact get 3 (by omega))
  obtain ⟨y4, h4⟩ := key 4 _ rfl rfl (by omega) (by rw [hx 4 _ rfl]; exact get 4 (by omega))
  refine ⟨⟨y0.data.toList, y1, y2, y3, y4⟩, ?_⟩
  apply List.ext_getElem?
  intro j
  by_cases hj : j < 5
  · match j, hj with
    | 0, _ => exact h0
    | 1, _ => exact h1
    | 2, _ => exact h2
    | 3, _ => exact h3
    | 4, _ => exact h4
  · rw [List.getElem?_eq_none (by omega), List.getElem?_eq_none (by show 5 ≤ j; omega)]
theorem ru_of_trod {H : Type} {enc : TypeId × Value → H} {W : World} {base : Nat} {spare : Nat → Bool} {held : Bool} {cs : Array Value} {d : DataW H} {p : List MemPlace}
    (h : DataW.Trod enc Tryz.prog W base spare held 24 (.agg cs) d p) : ∃ r : Ru, Value.agg cs = ruV r := by
  obtain ⟨fuel, hf⟩ := h
  obtain ⟨r, hr⟩ := ru_cells hf
  have hcell : (Value.agg cs).cells = cs := rfl
  rw [hcell] at hr
  refine ⟨r, ?_⟩
  rw [show cs = cs.toList.toArray from rfl, hr]; rfl
theorem hd_cells {H : Type} {enc : TypeId × Value → H} {W : World} {base : Nat} {spare : Nat → Bool} {held : Bool} {fuel : Nat} {cs : List Value} {x : DataW H × List MemPlace}
    (hf : DataW.trod enc Tryz.prog W base spare held fuel 29 cs = some x) : ∃ r : Hd, cs = hdC r := by
  obtain ⟨xs, n, _, _, hl, hlen, hx⟩ := DataW.trod_struct Tryz.underlying29 hf
  have hl5 : cs.length = 5 := hl.trans (by kernel_rfl)
  have hlen5 : xs.length = 5 := hlen
  have key : ∀ (j : Nat) (f : Field), f.type = 3 → f.offset = j → j < 5 → (∃ x, DataW.trod enc Tryz.prog W base spare held n f.type ((cs.drop f.offset).take (Tryz.prog.cellsOf f.type)) = some x) → ∃ y : Int, cs[j]? = some (.int .i64 y) := by
    rintro j f hty rfl hj ⟨x, hx⟩
    rw [hty] at hx
    obtain ⟨y, hy, _⟩ := DataW.trod_int Tryz.underlying3 hx
    rw [show Tryz.prog.cellsOf 3 = 1 by kernel_rfl] at hy
    refine ⟨y, ?_⟩
    have := congrArg (fun l => l[0]?) hy
    simp only [List.getElem?_take, List.getElem?_drop, Nat.add_zero, List.getElem?_cons_zero] at this
    simpa using this
  have keyS : ∀ (j : Nat) (f : Field), f.type = 9 → f.offset = j → j < 5 → (∃ x, DataW.trod enc Tryz.prog W base spare held n f.type ((cs.drop f.offset).take (Tryz.prog.cellsOf f.type)) = some x) → ∃ y : ByteArray, cs[j]? = some (.string y) := by
    rintro j f hty rfl hj ⟨x, hx⟩
    rw [hty] at hx
    obtain ⟨y, hy, _⟩ := DataW.trod_string Tryz.underlying9 hx
    rw [show Tryz.prog.cellsOf 9 = 1 by kernel_rfl] at hy
    refine ⟨y, ?_⟩
    have := congrArg (fun l => l[0]?) hy
    simp only [List.getElem?_take, List.getElem?_drop, Nat.add_zero, List.getElem?_cons_zero] at this
    simpa using this
  have get : ∀ (i : Nat), i < 5 → ∃ x, xs[i]? = some x := fun i hi => ⟨_, List.getElem?_eq_getElem (by omega)⟩
  obtain ⟨y0, h0⟩ := keyS 0 _ rfl rfl (by omega) (by rw [hx 0 _ rfl]; exact get 0 (by omega))
  obtain ⟨y1, h1⟩ := key 1 _ rfl rfl (by omega) (by rw [hx 1 _ rfl]; exact get 1 (by omega))
  obtain ⟨y2, h2⟩ := key 2 _ rfl rfl (by omega) (by rw [hx 2 _ rfl]; exact get 2 (by omega))
  obtain ⟨y3, h3⟩ := key 3 _ rfl rfl (by omega) (by rw [hx 3 _ rfl]; exact get 3 (by omega))
  obtain ⟨y4, h4⟩ := key 4 _ rfl rfl (by omega) (by rw [hx 4 _ rfl]; exact get 4 (by omega))
  refine ⟨⟨y0.data.toList, y1, y2, y3, y4⟩, ?_⟩
  apply List.ext_getElem?
  intro j
  by_cases hj : j < 5
  · match j, hj with
    | 0, _ => exact h0
    | 1, _ => exact h1
    | 2, _ => exact h2
    | 3, _ => exact h3
    | 4, _ => exact h4
  · rw [List.getElem?_eq_none (by omega), List.getElem?_eq_none (by show 5 ≤ j; omega)]
theorem hd_of_trod {H : Type} {enc : TypeId × Value → H} {W : World} {base : Nat} {spare : Nat → Bool} {held : Bool} {cs : Array Value} {d : DataW H} {p : List MemPlace}
    (h : DataW.Trod enc Tryz.prog W base spare held 29 (.agg cs) d p) : ∃ r : Hd, Value.agg cs = hdV r := by
  obtain ⟨fuel, hf⟩ := h
  obtain ⟨r, hr⟩ := hd_cells hf
  have hcell : (Value.agg cs).cells = cs := rfl
  rw [hcell] at hr
  refine ⟨r, ?_⟩
  rw [show cs = cs.toList.toArray from rfl, hr]; rfl
end Go.Proofs.YtbldanhjbnpdiaaGreatDoor
