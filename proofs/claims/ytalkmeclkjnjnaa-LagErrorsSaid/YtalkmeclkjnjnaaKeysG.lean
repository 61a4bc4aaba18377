/- slices.Sorted(maps.Keys(m)) at int keys, in the separation logic: a new slice that holds the keys in ascending order. -/
import Derived.Test.YtalkmeclkjnjnaaShelf
import Derived.Test.YtalkmeclkjnjnaaKeyO
namespace Go.Proofs.Ytalkmeclkjnjnaa
open Go.RowKit
open Go.Shelf
open SP

section
variable {α : Type} {f : α → Value} {w w' : World} {R : List SP} {b : Nat} {m : List (Int × α)}

/-- What lies below stays owned. -/
theorem Own.of_below {l : List SP} (o : Own w l) (h : Below w.heap.size w w') : Own w' l := by
  obtain ⟨σ, hs, hw⟩ := o
  exact ⟨σ, hs, fun k x hk => by rw [h.block k (Array.getElem?_eq_some_iff.1 (hw k x hk)).1]; exact hw k x hk⟩

/-- A new row of the call's own, beside what was owned. -/
theorem own_of_row {l : List SP} (o : Own w l) (h : Below w.heap.size w w') {e : TypeId} {size n : Nat} {v : Value} {xs : List Value} (hr : w'.ownsRow w.heap.size e size v n xs) :
    ∃ a cap, v = .slice a n cap ∧ Own w' (SP.slc e size a n cap xs :: l) := by
  have o' := o.of_below h
  obtain ⟨hx, hr⟩ := hr
  rcases hr with ⟨rfl, rfl⟩ | ⟨g, cap, cur, rfl, hg, hb, h1, h2, h3, h4⟩
  · have hxs : xs = [] := List.eq_nil_of_length_eq_zero (by simpa using hx)
    subst hxs
    exact ⟨none, 0, rfl, o'.slc_nil⟩
  · refine ⟨some ⟨g, 0, none⟩, cap, rfl, Own.slc.2 (.inr ⟨g, cur.toList.drop (n * size), rfl, h1, h2, hx, ?_, ?_⟩)⟩
    · rw [List.length_drop, Array.length_toList, h3, ← Nat.sub_mul]
    · have e1 : xs ++ cur.toList.drop (n * size) = cur.toList := by rw [← h4]; exact List.take_append_drop _ _
      rw [e1]
      obtain ⟨σ, hs, hw⟩ := o
      refine ⟨_, ⟨_, σ, rfl, hs, fun k => ?_, rfl⟩, fun k x hk => ?_⟩
      · by_cases hk : k = g
        · subst hk
          refine .inr ?_
          cases hσ : σ k with
          | none => rfl
          | some y => exact absurd (Array.getElem?_eq_some_iff.1 (hw k y hσ)).1 (by omega)
        · exact .inl (if_neg hk)
      · by_cases hk' : k = g
        · subst hk'
          have hx2 : x = .cells cur e (0, 0) := by simpa [Hp.cup] using hk.symm
          rw [hb, hx2]
        · have hk2 : σ k = some x := by simpa [Hp.cup, hk'] using hk
          rw [h.block k (Array.getElem?_eq_some_iff.1 (hw k x hk2)).1]
          exact hw k x hk2

def anyR (_ : Value) : Option (DataW Unit × List MemPlace) := some (.nil, [])

theorem i64wf {k : Int} (h : -9223372036854775808 ≤ k ∧ k ≤ 9223372036854775807) : (Lit.int .i64 k).wf = true := by
  simp only [Lit.wf, Bool.and_eq_true, decide_eq_true_eq]
  rw [show IntKind.i64.min = -9223372036854775808 from by decide, show IntKind.i64.max = 9223372036854775807 from by decide]
  exact h

theorem mpI_ownsMap (hk : KeyOk m) (hn : m.length ≤ 1000000) (o : Own w (mpI f b m :: R)) :
    ∃ D0 : DataW Unit, w.ownsMap Try.prog 3 anyR b m.length D0 ∧ (intKeys D0).Perm (m.map (·.1)) ∧ Maps.size D0 = m.length := by
  obtain ⟨es, clock, h1, h2, h3, o1⟩ := Own.mpI.1 o
  have hl : es.toList.length = m.length := by have := congrArg List.length h1; simpa using this
  have hkeys : es.toList.map (·.key) = m.map (fun x => Value.int .i64 x.1) := by
    have := congrArg (List.map Prod.fst) h1
    simpa [List.map_map, Function.comp_def] using this
  have hrd : ∀ x ∈ es.toList, ∃ k : Int, x.key = .int .i64 k ∧ WideElems.rd (H := Unit) Try.prog 3 anyR x = some (.int .i64 k, .nil) := by
    intro x hx
    have h4 : x.key ∈ m.map (fun x => Value.int .i64 x.1) := by rw [← hkeys]; exact List.mem_map.2 ⟨x, hx, rfl⟩
    obtain ⟨y, hy, hyk⟩ := List.mem_map.1 h4
    refine ⟨y.1, hyk.symm, ?_⟩
    unfold WideElems.rd
    rw [← hyk, Maps.keyOf_int_mk Try.underlying3 (i64wf (hk.2 y hy))]
    rfl
  have hrg : ∀ l : List MapEntry, (∀ x ∈ l, ∃ k : Int, x.key = .int .i64 k ∧ WideElems.rd (H := Unit) Try.prog 3 anyR x = some (.int .i64 k, .nil)) →
      (l.map (WideElems.rg (H := Unit) Try.prog 3 anyR)).map (fun p => encZ (Go.intOf p.1)) = l.map (·.key) := by
    intro l
    induction l with
    | nil => intro _; rfl
    | cons x l ih =>
      intro h
      obtain ⟨k, h5, h6⟩ := h x (by simp)
      simp only [List.map_cons, ih (fun y hy => h y (by simp [hy])), List.cons.injEq, and_true]
      unfold WideElems.rg
      rw [h6, h5]
      rfl
  have hinj : ∀ (l l' : List Int), l.map encZ = l'.map encZ → l = l' := by
    intro l
    induction l with
    | nil => intro l' h; cases l' <;> simp_all
    | cons x l ih => intro l' h; cases l' with
      | nil => simp at h
      | cons y l' => simp at h; rw [h.1, ih l' (by simpa using h.2)]
  refine ⟨.map ((es.toList.map (WideElems.rg Try.prog 3 anyR)).foldr DataW.insert []), ⟨es, clock, o1.blk, ⟨?_, ?_, ?_⟩, ?_, rfl⟩, ?_, ?_⟩
  · rw [← Array.length_toList, hl]; unfold maxLen; omega
  · refine ⟨h3, ?_, ?_⟩
    · rw [List.Nodup, List.pairwise_map]
      exact h2.imp (fun h => Nat.ne_of_lt h)
    · rw [hkeys, List.Nodup, List.pairwise_map]
      have := hk.1
      unfold Uniq at this
      rw [List.Nodup, List.pairwise_map] at this
      exact this.imp (fun h e => h (by simpa using e))
  · intro x hx; obtain ⟨k, _, h⟩ := hrd x hx; exact ⟨_, h⟩
  · rw [← Array.length_toList, hl]; exact Nat.le_refl _
  · have hp := (WideShapes.sorted_perm (es.toList.map (WideElems.rg (H := Unit) Try.prog 3 anyR))).map (fun p => Go.intOf p.1)
    have e1 : (es.toList.map (WideElems.rg (H := Unit) Try.prog 3 anyR)).map (fun p => Go.intOf p.1) = m.map (·.1) := by
      apply hinj
      have := hrg es.toList hrd
      rw [hkeys] at this
      simpa [List.map_map, Function.comp_def, encZ] using this
    rw [e1] at hp
    exact hp
  · have := (WideShapes.sorted_perm (es.toList.map (WideElems.rg (H := Unit) Try.prog 3 anyR))).length_eq
    rw [List.length_map, hl] at this
    exact this

theorem Try.sortsIn (k : Nat) : AnyZI.SortsIn Try.prog Try.sorted_ren Fence.wide k :=
  ⟨fun blk off cap ss W hH hblk hsz => callsIn_wide.2 (AnyM.slices_Sort_int Try.sort blk off cap ss W hH hblk hsz),
   fun p cap W => callsIn_wide.2 (AnyM.slices_Sort_int_none Try.sort p cap W)⟩

theorem mergeSort_same {l l' : List Int} (h : l.Perm l') : l.mergeSort (fun x y => decide (x ≤ y)) = l'.mergeSort leI := mergeSort_of_perm_i h
end
end Go.Proofs.Ytalkmeclkjnjnaa
