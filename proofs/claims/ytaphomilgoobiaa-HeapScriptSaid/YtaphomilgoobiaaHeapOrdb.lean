/- The order of a heap: push, update, remove, the least entry. No program in sight. -/
import Derived.Test.YtaphomilgoobiaaHeapOrd
namespace Go.Proofs.Ytaphomilgoobiaa

theorem vE_append (es : List (Int × Int)) (l : List (Int × Int)) {j : Nat} (h : j < es.length) : vE (es ++ l) j = vE es j := by
  unfold vE
  rw [List.getD_eq_getElem?_getD, List.getD_eq_getElem?_getD, List.getElem?_append_left h]
theorem HOrd.front {es l : List (Int × Int)} (h : HOrd (es ++ l)) : HOrd es := fun j h0 hj => by
  have := h j h0 (by simp; omega)
  rwa [vE_append es l hj, vE_append es l (by omega)] at this
theorem HOrd.nil : HOrd [] := fun j _ hj => by simp at hj

theorem updown_ord {x : Int × Int} {i n : Nat} {es m : List (Int × Int)} (hi : i < es.length) (hn : n = es.length) (hH : Hole es i) (hc : Cons (upF x i i es m).1 (upF x i i es m).2) :
    HOrd (downF x n ((mget (upF x i i es m).2 x.1).getD 0).toNat (upF x i i es m).1 (upF x i i es m).2).1 := by
  obtain ⟨es', k, k1, k2, k3, k4, k5, -⟩ := upF_ord x i i es m (Nat.le_refl _) hi hH
  have hk : (upF x i i es m).1[k]? = some x := by rw [k3]; exact List.getElem?_set_self k1
  have hm := hc.at hk
  rw [hm]
  simp only [Option.getD_some, Int.toNat_natCast]
  rw [k3]
  refine downF_ord x n k (es'.set k x) _ (by rw [List.length_set, k2, hn]; omega) (by simpa using k1) (k4.set x) (fun h0 => ?_)
  rw [vE_other _ _ _ _ (by omega) (by omega)]
  exact k5 h0
theorem updF_ord {es m : List (Int × Int)} {i : Nat} {e x : Int × Int} (he : es[i]? = some e) (hx : x.1 = e.1) (hc : Cons es m) (ho : HOrd es) : HOrd (updF i x es m).1 := by
  have hi : i < es.length := (List.getElem?_eq_some_iff.1 he).1
  have hx2 : x = (e.1, x.2) := by rw [← hx]
  have hg : (es.set i x)[i]? = some x := List.getElem?_set_self hi
  have hcr := hc.rekey he x.2
  rw [← hx2] at hcr
  obtain ⟨hcu, -⟩ := upF_good x i i (es.set i x) m (by simpa using hi) (hcr.here hg)
  unfold updF
  exact updown_ord (by simpa using hi) (by simp) ((ho.hole i hi).set x) hcu
theorem remF_ord {es m : List (Int × Int)} {i : Nat} {e l : Int × Int} (he : (es ++ [l])[i]? = some e) (hc : Cons (es ++ [l]) m) (ho : HOrd (es ++ [l])) : HOrd (remF i e l es m).1 := by
  unfold remF
  by_cases hlt : i < es.length
  · rw [if_pos hlt]
    have hie : es[i]? = some e := by rwa [List.getElem?_append_left hlt] at he
    have hcg : Cons ((es.set i l).set i l) (mput (mput (mdel m e.1) l.1 i) l.1 i) := (hc.fill hie).here (List.getElem?_set_self hlt)
    obtain ⟨hc8, -⟩ := upF_good l i i (es.set i l) (mput (mdel m e.1) l.1 i) (by rw [List.length_set]; exact hlt) hcg
    exact updown_ord (by simpa using hlt) (by simp) ((ho.front.hole i hlt).set l) hc8
  · rw [if_neg hlt]
    exact ho.front
theorem pushF_ord {es m : List (Int × Int)} {cap id key : Int} (ho : HOrd es) : HOrd (pushF cap id key es m).1 := by
  unfold pushF
  split
  · have hH : Hole (es ++ [(id, key)]) es.length := by
      refine ⟨fun j h0 hj h1 h2 => ?_, fun h0 j h1 hj hji => ?_⟩
      · have hj2 : j < es.length := by simp at hj; omega
        rw [vE_append es _ hj2, vE_append es _ (by omega)]
        exact ho j h0 hj2
      · simp at hj; omega
    obtain ⟨es', k, k1, k2, k3, k4, k5, k6⟩ := upF_ord (id, key) es.length es.length (es ++ [(id, key)]) m (Nat.le_refl _) (by simp) hH
    rw [k3]
    exact k4.full k1 (k6 (fun j h0 hj hji => by simp at hj; omega)) k5
  · exact ho
theorem HOrd.least {es : List (Int × Int)} (h : HOrd es) (j : Nat) (hj : j < es.length) : leE (vE es 0) (vE es j) := by
  induction j using Nat.strongRecOn with
  | ind j ih =>
    by_cases h0 : j = 0
    · subst h0; exact leE.refl _
    · exact (ih ((j - 1) / 2) (by omega) (by omega)).trans (h j (by omega) hj)
theorem HOrd.least_mem {es : List (Int × Int)} (h : HOrd es) {e x : Int × Int} (he : es[0]? = some e) (hx : x ∈ es) : leE e x := by
  obtain ⟨j, hj, hjx⟩ := List.mem_iff_getElem.1 hx
  have h1 := h.least j hj
  have e0 : vE es 0 = e := by unfold vE; rw [List.getD_eq_getElem?_getD, he]; rfl
  have e1 : vE es j = x := by unfold vE; rw [List.getD_eq_getElem?_getD, List.getElem?_eq_getElem hj, hjx]; rfl
  rwa [e0, e1] at h1
end Go.Proofs.Ytaphomilgoobiaa
