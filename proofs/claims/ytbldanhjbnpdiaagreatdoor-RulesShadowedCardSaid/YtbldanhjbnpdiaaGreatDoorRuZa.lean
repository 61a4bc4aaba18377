/- Rules, plain: which rules of a list are shadowed, and that the others choose the same flow. -/
import Derived.Test.YtbldanhjbnpdiaaGreatDoorRuX
namespace Go.Proofs.YtbldanhjbnpdiaaGreatDoor
/-- The rule at a place is covered by an earlier one. -/
def shadA (l : List Ru) (i : Nat) : Bool := match l[i]? with | some b => (l.take i).any fun a => covOK a b | none => false
def shadU (l : List Ru) (i : Nat) : List Nat := (List.range i).filter (shadA l)
theorem shadU_next (l : List Ru) (i : Nat) : shadU l (i + 1) = if shadA l i = true then shadU l i ++ [i] else shadU l i := by
  unfold shadU
  rw [List.range_succ, List.filter_append]
  by_cases h : shadA l i = true
  · rw [if_pos h]; simp [h]
  · rw [if_neg h]; simp [h]
theorem shadU_len (l : List Ru) (i : Nat) : (shadU l i).length ≤ i := by
  have := List.length_filter_le (shadA l) (List.range i)
  rw [List.length_range] at this
  exact this
theorem shadA_hit {l : List Ru} {i k : Nat} {a b : Ru} (hb : l[i]? = some b) (ha : l[k]? = some a) (hk : k < i) (h : covOK a b = true) : shadA l i = true := by
  unfold shadA
  rw [hb]
  exact List.any_eq_true.2 ⟨a, List.mem_of_getElem? (i := k) (by rw [List.getElem?_take_of_lt hk]; exact ha), h⟩
def NoCov (l : List Ru) (b : Ru) (k : Nat) : Prop := ∀ j a, j < k → l[j]? = some a → covOK a b = false
theorem NoCov.next {l : List Ru} {b a : Ru} {k : Nat} (h : NoCov l b k) (ha : l[k]? = some a) (hc : covOK a b = false) : NoCov l b (k + 1) := fun j a' hj ha' => by
  by_cases e : j = k
  · subst e; rw [ha] at ha'; cases ha'; exact hc
  · exact h j a' (by omega) ha'
theorem shadA_miss {l : List Ru} {i : Nat} {b : Ru} (hb : l[i]? = some b) (h : NoCov l b i) : shadA l i = false := by
  unfold shadA
  rw [hb]
  refine List.any_eq_false.2 fun a ha => ?_
  obtain ⟨j, hj⟩ := List.getElem?_of_mem ha
  have hlt := (List.getElem?_eq_some_iff.1 hj).1
  rw [List.length_take] at hlt
  rw [List.getElem?_take_of_lt (by omega)] at hj
  rw [h j a (by omega) hj]
  exact Bool.false_ne_true
/-- The rules before a place that are not shadowed. -/
def keepL (l : List Ru) : Nat → List Ru
  | 0 => []
  | i + 1 => if shadA l i = true then keepL l i else keepL l i ++ (l[i]?).toList
theorem keepL_skip {l : List Ru} {i : Nat} (h : shadA l i = true) : keepL l (i + 1) = keepL l i := by
  show (if shadA l i = true then keepL l i else _) = _
  rw [if_pos h]
theorem keepL_take {l : List Ru} {i : Nat} {b : Ru} (hb : l[i]? = some b) (h : shadA l i = false) : keepL l (i + 1) = keepL l i ++ [b] := by
  show (if shadA l i = true then keepL l i else _) = _
  rw [if_neg (by rw [h]; exact Bool.false_ne_true), hb]; rfl
theorem keepL_mem (l : List Ru) : ∀ (i : Nat), ∀ r ∈ keepL l i, r ∈ l
  | 0, r, h => absurd h List.not_mem_nil
  | i + 1, r, h => by
    by_cases hs : shadA l i = true
    · rw [keepL_skip hs] at h; exact keepL_mem l i r h
    · have hs' : shadA l i = false := by simpa using hs
      cases hb : l[i]? with
      | none =>
        have e : keepL l (i + 1) = keepL l i := by
          show (if shadA l i = true then keepL l i else keepL l i ++ (l[i]?).toList) = _
          rw [if_neg hs, hb]; exact List.append_nil _
        rw [e] at h; exact keepL_mem l i r h
      | some b =>
        rw [keepL_take hb hs'] at h
        rcases List.mem_append.1 h with h | h
        · exact keepL_mem l i r h
        · rw [List.mem_singleton.1 h]; exact List.mem_of_getElem? hb
theorem keepL_len (l : List Ru) : ∀ (i : Nat), (keepL l i).length ≤ i
  | 0 => Nat.le_refl _
  | i + 1 => by
    have ih := keepL_len l i
    show (if shadA l i = true then keepL l i else keepL l i ++ (l[i]?).toList).length ≤ i + 1
    split
    · omega
    · rw [List.length_append]
      have : (l[i]?).toList.length ≤ 1 := by cases l[i]? <;> simp
      omega
theorem clsO_some {l : List Ru} {h : Hd} {a : Ru} (ha : a ∈ l) (hm : matOK a h = true) : clsO l h ≠ none := by
  induction l with
  | nil => exact absurd ha List.not_mem_nil
  | cons r l ih =>
    show (if matOK r h = true then some r.flow else clsO l h) ≠ none
    split
    · simp
    · rename_i hr
      rcases List.mem_cons.1 ha with e | e
      · rw [e] at hm; exact absurd hm hr
      · exact ih e
/-- Without the shadowed rules every header gets the same flow. -/
theorem cls_keep (l : List Ru) (h : Hd) : ∀ (i : Nat), i ≤ l.length → clsO (keepL l i) h = clsO (l.take i) h
  | 0, _ => rfl
  | i + 1, hi => by
    have ih := cls_keep l h i (by omega)
    obtain ⟨b, hb⟩ : ∃ b, l[i]? = some b := ⟨_, List.getElem?_eq_getElem (by omega)⟩
    rw [List.take_add_one, hb, clsO_append]
    cases hs : shadA l i with
    | false => rw [keepL_take hb hs, clsO_append, ih]; rfl
    | true =>
      rw [keepL_skip hs, ih]
      cases hc : clsO (l.take i) h with
      | some f => rfl
      | none =>
        unfold shadA at hs
        rw [hb] at hs
        obtain ⟨a, ha, hcov⟩ := List.any_eq_true.1 hs
        have hm : matOK b h = false := by
          cases hm : matOK b h with
          | false => rfl
          | true => exact absurd hc (clsO_some ha (cov_mat hcov hm))
        show none = clsO [b] h
        unfold clsO
        rw [if_neg (by rw [hm]; exact Bool.false_ne_true)]
        rfl
theorem shadU_mem {l : List Ru} {n i : Nat} (hi : i < n) : decide (i ∈ shadU l n) = shadA l i := by
  unfold shadU
  cases hs : shadA l i with
  | true => exact decide_eq_true (List.mem_filter.2 ⟨List.mem_range.2 hi, hs⟩)
  | false => exact decide_eq_false fun h => by have := (List.mem_filter.1 h).2; rw [hs] at this; cases this
end Go.Proofs.YtbldanhjbnpdiaaGreatDoor
