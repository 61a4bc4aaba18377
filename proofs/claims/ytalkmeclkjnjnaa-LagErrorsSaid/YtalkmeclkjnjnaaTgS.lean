/- Lists of tags in memory, behind a pool; parts of them as sources of an append. -/
import Derived.Test.YtalkmeclkjnjnaaTg
import Derived.Test.YtalkmeclkjnjnaaProg
import Derived.Test.YtalkmeclkjnjnaaApp
namespace Go.Proofs.Ytalkmeclkjnjnaa
open Go.RowKit
open SP

/-! ### Lists of tags -/
/-- The list of tags that a slice at a holds, read behind Sp. -/
def TagsAt (Sp : SP) (a : Option Addr) (L : List Tg) : Prop := ∀ (w : World) (R : List SP), Own w (Sp :: R) → ∀ (i : Nat) (t : Tg), L[i]? = some t →
  ∃ g so, a = some ⟨g, so, none⟩ ∧ w.cell? ⟨g, so + i * 3, none⟩ = some (.int .i64 t.f) ∧ w.cell? ⟨g, so + i * 3 + 1, none⟩ = some (.int .i64 t.w) ∧ w.cell? ⟨g, so + i * 3 + 2, none⟩ = some (.int .i64 t.s)
theorem tagsAt_slc {T : TypeId} (a : Option Addr) (n c : Nat) (L : List Tg) (hn : n = L.length) : TagsAt (slc T 3 a n c (flat tagC L)) a L := by
  intro w R o i t ht
  have := (List.getElem?_eq_some_iff.1 ht).1
  obtain ⟨g, h, hc, hf, hg⟩ := o.slc_cell (by omega)
  refine ⟨g, 0, h, ?_, ?_, ?_⟩
  · rw [Nat.zero_add]; exact hc (i * 3 + 0) _ (flat_get tagC_len L i 0 t ht (by omega))
  · rw [Nat.zero_add]; exact hc (i * 3 + 1) _ (flat_get tagC_len L i 1 t ht (by omega))
  · rw [Nat.zero_add]; exact hc (i * 3 + 2) _ (flat_get tagC_len L i 2 t ht (by omega))

/-- The index of a flow, or -1. -/
def idxT (f : Int) : Nat → List Tg → Int
  | _, [] => -1
  | i, t :: l => if t.f = f then (i : Int) else idxT f (i + 1) l
theorem idxT_none {f : Int} : ∀ (k : Nat) (L : List Tg), fget L f = none → idxT f k L = -1
  | _, [], _ => rfl
  | k, t :: L, h => by
    have hn := fget_none.1 h
    rw [idxT, if_neg (hn t (by simp))]
    exact idxT_none (k + 1) L (fget_none.2 fun t ht => hn t (by simp [ht]))
theorem idxT_some {f : Int} {t : Tg} : ∀ (k : Nat) (L : List Tg), fget L f = some t → ∃ i, L[i]? = some t ∧ idxT f k L = ((k + i : Nat) : Int)
  | _, [], h => by simp [fget] at h
  | k, u :: L, h => by
    rw [fget_cons] at h
    by_cases hu : u.f = f
    · rw [if_pos hu] at h
      cases h
      exact ⟨0, rfl, by rw [idxT, if_pos hu]; rfl⟩
    · rw [if_neg hu] at h
      obtain ⟨i, h1, h2⟩ := idxT_some (k + 1) L h
      exact ⟨i + 1, h1, by rw [idxT, if_neg hu, h2]; congr 1; omega⟩

theorem insT_split (x : Tg) : ∀ (k : Nat) (L : List Tg), k ≤ L.length → (∀ (j : Nat) (t : Tg), j < k → L[j]? = some t → t.f < x.f) → (∀ t : Tg, L[k]? = some t → ¬ t.f < x.f) → insT x L = L.take k ++ [x] ++ L.drop k
  | 0, [], _, _, _ => rfl
  | 0, t :: L, _, _, h2 => by
    unfold insT
    rw [if_neg (h2 t rfl)]
    rfl
  | k + 1, [], hk, _, _ => by simp at hk
  | k + 1, t :: L, hk, h1, h2 => by
    unfold insT
    rw [if_pos (h1 0 t (by omega) rfl), insT_split x k L (by simpa using hk) (fun j u hj hu => h1 (j + 1) u (by omega) (by simpa using hu)) (fun u hu => h2 u (by simpa using hu))]
    rfl
/-- How a slice's head looks. -/
def SlOk (a : Option Addr) (c : Nat) : Prop := (a = none ∧ c = 0) ∨ ∃ g, a = some ⟨g, 0, none⟩
def PExtT (P P' : SP) : Prop := ∀ a L, TagsAt P a L → TagsAt P' a L
theorem PExtT.refl (P : SP) : PExtT P P := fun _ _ h => h
theorem PExtT.trans {A B C : SP} (h : PExtT A B) (k : PExtT B C) : PExtT A C := fun _ _ x => k _ _ (h _ _ x)
theorem PExtT.add (A S : SP) : PExtT S (st [A, S]) := fun _ _ h w R o i y hy => h w _ ((Own.st.1 o).up 1) i y hy
theorem TagsAt.new {S A : SP} {a : Option Addr} {L : List Tg} (h : TagsAt A a L) : TagsAt (st [A, S]) a L := fun w _ o i y hy => h w _ (Own.st.1 o) i y hy
theorem delT_len (f : Int) (L : List Tg) : (delT f L).length ≤ L.length := List.length_filter_le _ _
theorem take_snoc {α : Type} {L : List α} {i : Nat} {x : α} (h : L[i]? = some x) : L.take (i + 1) = L.take i ++ [x] := by rw [List.take_add_one, h]; rfl
theorem delT_snoc (f : Int) (L : List Tg) (t : Tg) : delT f (L ++ [t]) = if t.f = f then delT f L else delT f L ++ [t] := by
  unfold delT
  rw [List.filter_append]
  split
  · rename_i h; rw [List.filter_cons_of_neg (by simp [h])]; simp
  · rename_i h; rw [List.filter_cons_of_pos (by simp [h])]; simp

section
variable {W w w' : World} {R : List SP}
theorem slOk_slc {e : TypeId} {size : Nat} {a : Option Addr} {n c : Nat} {xs : List Value} (o : Own w (slc e size a n c xs :: R)) : SlOk a c := by
  rcases Own.slc.1 o with ⟨h1, _, h2, _⟩ | ⟨g, sp, h, _⟩
  · exact .inl ⟨h1, h2⟩
  · exact .inr ⟨g, h⟩
theorem tagsAt_nil (P : SP) (a : Option Addr) : TagsAt P a [] := fun w R o i y hy => by simp at hy
theorem tags_src {A : SP} {a : Option Addr} {n c : Nat} {L : List Tg} (hA : TagsAt A a L) (hn : n = L.length) (o : Own w (A :: R)) : IsSrc w (.slice a n c) 3 n (flat tagC L) := by
  refine ⟨a, c, rfl, by rw [flat_length tagC_len, hn], fun u hu => ?_, ?_⟩
  · obtain ⟨p, _, hp⟩ := List.mem_flatMap.1 hu
    unfold tagC at hp
    simp at hp
    rcases hp with rfl | rfl | rfl <;> rfl
  · cases L with
    | nil => exact .inl hn
    | cons p L' =>
      obtain ⟨g, so, rfl, _, _, _⟩ := hA _ _ o 0 p rfl
      refine .inr ⟨_, rfl, fun j u hu => ?_⟩
      have hadd : (⟨g, so, none⟩ : Addr).add j = ⟨g, so + j, none⟩ := by unfold Addr.add; split <;> simp_all
      rw [hadd]
      have hj : j < (p :: L').length * 3 := by have := (List.getElem?_eq_some_iff.1 hu).1; rwa [flat_length tagC_len] at this
      have hjk : j / 3 < (p :: L').length := by omega
      obtain ⟨t, ht⟩ : ∃ t, (p :: L')[j / 3]? = some t := ⟨_, List.getElem?_eq_getElem hjk⟩
      obtain ⟨g', so', h1, h2, h3, h4⟩ := hA _ _ o (j / 3) t ht
      cases h1
      have h5 := flat_get tagC_len (p :: L') (j / 3) (j % 3) t ht (Nat.mod_lt _ (by omega))
      rw [show j / 3 * 3 + j % 3 = j from by omega, hu] at h5
      have hm : j % 3 = 0 ∨ j % 3 = 1 ∨ j % 3 = 2 := by omega
      rcases hm with hm | hm | hm
      · rw [hm] at h5
        rw [show so + j = so + j / 3 * 3 from by omega, h2, h5]; rfl
      · rw [hm] at h5
        rw [show so + j = so + j / 3 * 3 + 1 from by omega, h3, h5]; rfl
      · rw [hm] at h5
        rw [show so + j = so + j / 3 * 3 + 2 from by omega, h4, h5]; rfl
theorem tags_cut {A : SP} {g so : Nat} {i k c : Nat} {L : List Tg} (hA : TagsAt A (some ⟨g, so, none⟩) L) (hik : i + k ≤ L.length) (o : Own w (A :: R)) :
    IsSrc w (.slice (some ⟨g, so + i * 3, none⟩) k c) 3 k (flat tagC ((L.drop i).take k)) := by
  have hl : ((L.drop i).take k).length = k := by rw [List.length_take, List.length_drop]; omega
  have hB : TagsAt A (some ⟨g, so + i * 3, none⟩) ((L.drop i).take k) := fun w R o j y hy => by
    have hj := (List.getElem?_eq_some_iff.1 hy).1
    rw [hl] at hj
    have hy2 : L[i + j]? = some y := by rw [List.getElem?_take, if_pos hj, List.getElem?_drop] at hy; exact hy
    obtain ⟨g', so', h1, h2, h3, h4⟩ := hA w R o (i + j) y hy2
    cases h1
    refine ⟨g, so + i * 3, rfl, ?_, ?_, ?_⟩
    · rw [← h2]; congr 2; omega
    · rw [← h3]; congr 2; omega
    · rw [← h4]; congr 2; omega
  exact tags_src hB hl.symm o

theorem at_world {op : Oper} {A : Act} {K : Act → World → Prop} {Q : Exit → Act → World → Prop} {F c : Prop} {h : Decidable c} (W : World) (hh : @ite Prop c h (Oper.wp Try.prog op A W K Q) F) : @ite Prop c h (Oper.wp Try.prog op A W K Q) F := hh
theorem news_src {T : TypeId} {nb : Nat} {t0 t1 t2 : Int} (o : Own w (cel nb T [.int .i64 t0, .int .i64 t1, .int .i64 t2] :: R)) : IsSrc w (.slice (some ⟨nb, 0, none⟩) 1 1) 3 1 [.int .i64 t0, .int .i64 t1, .int .i64 t2] :=
  ⟨_, _, rfl, rfl, by intro u hu; simp at hu; rcases hu with rfl | rfl | rfl <;> rfl, .inr ⟨_, rfl, fun j u hu => Own.news o j u hu⟩⟩
end
theorem flat_set {α : Type} {g : α → List Value} {sz : Nat} (hg : ∀ x, (g x).length = sz) : ∀ (L : List α) (i j : Nat) (x x' : α) (v : Value), L[i]? = some x → j < sz → g x' = (g x).set j v → flat g (L.set i x') = (flat g L).set (i * sz + j) v
  | [], i, j, x, x', v, h, _, _ => by simp at h
  | y :: L, 0, j, x, x', v, h, hj, he => by
    obtain rfl : y = x := by simpa using h
    show g x' ++ flat g L = (g y ++ flat g L).set (0 * sz + j) v
    rw [Nat.zero_mul, Nat.zero_add, List.set_append_left _ _ (by rw [hg]; exact hj), he]
  | y :: L, i + 1, j, x, x', v, h, hj, he => by
    have ih := flat_set hg L i j x x' v (by simpa using h) hj he
    show g y ++ flat g (L.set i x') = (g y ++ flat g L).set ((i + 1) * sz + j) v
    have e : (i + 1) * sz + j = sz + (i * sz + j) := by rw [Nat.add_mul]; omega
    rw [e, List.set_append_right _ _ (by rw [hg]; omega), hg, Nat.add_sub_cancel_left, ih]
theorem setT_atP {L : List Tg} (h : L.Pairwise fun a b => a.f < b.f) {i : Nat} {t x : Tg} (ht : L[i]? = some t) (hx : x.f = t.f) : L.set i x = setT x L := by
  apply List.ext_getElem?
  intro j
  unfold setT
  rw [List.getElem?_set, List.getElem?_map]
  by_cases hj : i = j
  · subst hj
    rw [if_pos rfl, if_pos (List.getElem?_eq_some_iff.1 ht).1, ht]
    simp [hx]
  · rw [if_neg hj]
    cases hu : L[j]? with
    | none => rfl
    | some u =>
      have hne : u.f ≠ x.f := fun he => by
        obtain ⟨h1, e1⟩ := List.getElem?_eq_some_iff.1 ht
        obtain ⟨h2, e2⟩ := List.getElem?_eq_some_iff.1 hu
        have hp := List.pairwise_iff_getElem.1 h
        rcases Nat.lt_or_gt_of_ne hj with h3 | h3
        · have := hp i j h1 h2 h3; rw [e1, e2] at this; omega
        · have := hp j i h2 h1 h3; rw [e1, e2] at this; omega
      simp [hne]
theorem delT_atP {L : List Tg} (h : L.Pairwise fun a b => a.f < b.f) {i : Nat} {t : Tg} (ht : L[i]? = some t) : L.take i ++ L.drop (i + 1) = delT t.f L := by
  obtain ⟨hi, ei⟩ := List.getElem?_eq_some_iff.1 ht
  have hp := List.pairwise_iff_getElem.1 h
  have hsp : L = L.take i ++ t :: L.drop (i + 1) := by rw [← ei, ← List.drop_eq_getElem_cons hi, List.take_append_drop]
  have h1 : ∀ y ∈ L.take i, y.f ≠ t.f := fun y hy he => by
    obtain ⟨j, hj, ej⟩ := List.mem_iff_getElem.1 hy
    rw [List.length_take] at hj
    rw [List.getElem_take] at ej
    have := hp j i (by omega) hi (by omega)
    rw [ej, ei] at this
    omega
  have h2 : ∀ y ∈ L.drop (i + 1), y.f ≠ t.f := fun y hy he => by
    obtain ⟨j, hj, ej⟩ := List.mem_iff_getElem.1 hy
    rw [List.length_drop] at hj
    rw [List.getElem_drop] at ej
    have := hp i (i + 1 + j) hi (by omega) (by omega)
    rw [ej, ei] at this
    omega
  conv => rhs; rw [hsp]
  unfold delT
  rw [List.filter_append, List.filter_cons_of_neg (by simp)]
  congr 1
  · exact (List.filter_eq_self.2 fun y hy => by simpa using h1 y hy).symm
  · exact (List.filter_eq_self.2 fun y hy => by simpa using h2 y hy).symm
end Go.Proofs.Ytalkmeclkjnjnaa
