/- Lines of a ledger in a list that ascends, and how a map represents them. -/
import Derived.Test.YtalkmeclkjnjnaaTg
namespace Go.Proofs.Ytalkmeclkjnjnaa
open Go.RowKit
open SP

/-- A list of active flows, ascending. -/
structure NOk (L : List Tg) : Prop where
  asc : L.Pairwise (fun a b => a.f < b.f)
  rng : ∀ t ∈ L, 0 ≤ t.f ∧ t.f < 32 ∧ 1 ≤ t.w ∧ t.w ≤ 16

theorem fget_memN {L : List Tg} (h : NOk L) {t : Tg} (ht : t ∈ L) : fget L t.f = some t := by
  have h1 := h.asc
  clear h
  induction L with
  | nil => simp at ht
  | cons a L ih =>
    rw [List.pairwise_cons] at h1
    unfold fget
    rw [List.find?_cons]
    rcases List.mem_cons.1 ht with rfl | ht
    · simp
    · have := h1.1 t ht
      have hne : (a.f == t.f) = false := by simpa using Int.ne_of_lt this
      rw [hne]
      exact ih ht h1.2
theorem NOk.inj {L : List Tg} (h : NOk L) {a b : Tg} (ha : a ∈ L) (hb : b ∈ L) (e : a.f = b.f) : a = b := by
  have h1 := fget_memN h ha
  have h2 := fget_memN h hb
  rw [e, h2] at h1
  simpa using h1.symm

theorem NOk.ins {L : List Tg} (h : NOk L) {x : Tg} (hx : 0 ≤ x.f ∧ x.f < 32 ∧ 1 ≤ x.w ∧ x.w ≤ 16) (hn : fget L x.f = none) : NOk (insT x L) := by
  have hne := fget_none.1 hn
  refine ⟨?_, fun t ht => ?_⟩
  · have h1 := h.asc
    clear h hn
    induction L with
    | nil => simp [insT]
    | cons a L ih =>
      rw [List.pairwise_cons] at h1
      unfold insT
      split
      · rename_i hlt
        rw [List.pairwise_cons]
        refine ⟨fun t ht => ?_, ih (fun t ht => hne t (by simp [ht])) h1.2⟩
        rcases mem_insT.1 ht with rfl | ht
        · exact hlt
        · exact h1.1 t ht
      · rename_i hlt
        have ha := hne a (by simp)
        rw [List.pairwise_cons]
        refine ⟨fun t ht => ?_, List.pairwise_cons.2 h1⟩
        rcases List.mem_cons.1 ht with rfl | ht
        · omega
        · have := h1.1 t ht; omega
  · rcases mem_insT.1 ht with rfl | ht
    · exact hx
    · exact h.rng t ht
theorem NOk.del {L : List Tg} (h : NOk L) (k : Int) : NOk (delT k L) :=
  ⟨h.asc.sublist List.filter_sublist, fun t ht => h.rng t (List.mem_filter.1 ht).1⟩
theorem NOk.set {L : List Tg} (h : NOk L) {x : Tg} (hx : 0 ≤ x.f ∧ x.f < 32 ∧ 1 ≤ x.w ∧ x.w ≤ 16) : NOk (setT x L) := by
  refine ⟨?_, fun t ht => ?_⟩
  · rw [asc_iff, setT_f, ← asc_iff]; exact h.asc
  · rcases mem_setT ht with rfl | ⟨ht, _⟩
    · exact hx
    · exact h.rng t ht
theorem NOk.len {L : List Tg} (h : NOk L) : L.length ≤ 32 := by
  have key : ∀ (l : List Int) (n : Int), l.Pairwise (· < ·) → (∀ x ∈ l, n ≤ x ∧ x < 32) → n ≤ 32 → (l.length : Int) ≤ 32 - n := by
    intro l
    induction l with
    | nil => intro n _ _ h; simp; omega
    | cons a l ih =>
      intro n hp hr hn
      rw [List.pairwise_cons] at hp
      have ha := hr a (by simp)
      have := ih (a + 1) hp.2 (fun x hx => ⟨by have := hp.1 x hx; omega, (hr x (by simp [hx])).2⟩) (by omega)
      rw [List.length_cons]
      omega
  have := key (L.map (·.f)) 0 (asc_iff.1 h.asc) (fun x hx => by
    obtain ⟨t, ht, rfl⟩ := List.mem_map.1 hx
    exact ⟨(h.rng t ht).1, (h.rng t ht).2.1⟩) (by omega)
  rw [List.length_map] at this
  omega

/-- The map holds the active flows, in whatever order. -/
structure RepN (m : List (Int × Tg)) (L : List Tg) : Prop where
  ok : NOk L
  perm : m.Perm (L.map pairT)

section
variable {m : List (Int × Tg)} {L : List Tg}
theorem RepN.keys (h : RepN m L) : (m.map (·.1)).Perm (L.map (·.f)) := by
  have := h.perm.map (·.1)
  rw [List.map_map] at this
  exact this
theorem RepN.uniq (h : RepN m L) : Uniq m := by
  unfold Uniq
  rw [h.keys.nodup_iff]
  exact (asc_iff.1 h.ok.asc).imp Int.ne_of_lt
theorem RepN.keyOk (h : RepN m L) : KeyOk m := by
  refine ⟨h.uniq, fun x hx => ?_⟩
  have := h.keys.mem_iff.1 (List.mem_map.2 ⟨x, hx, rfl⟩)
  obtain ⟨t, ht, he⟩ := List.mem_map.1 this
  have := h.ok.rng t ht
  omega
theorem RepN.len (h : RepN m L) : m.length = L.length := by rw [h.perm.length_eq, List.length_map]
theorem RepN.get (h : RepN m L) (k : Int) : mget m k = fget L k := by
  cases hf : fget L k with
  | none =>
    rw [mget_none]
    intro hk
    obtain ⟨t, ht, he⟩ := List.mem_map.1 (h.keys.mem_iff.1 hk)
    exact fget_none.1 hf t ht he
  | some t =>
    obtain ⟨h1, h2⟩ := fget_some hf
    have : pairT t ∈ m := h.perm.mem_iff.2 (List.mem_map.2 ⟨t, h1, rfl⟩)
    have := mget_mem h.uniq this
    rw [← h2]; exact this
theorem RepN.sort (h : RepN m L) : sortK m = L.map (·.f) := by
  unfold sortK
  refine List.Perm.eq_of_pairwise (le := fun a b => a ≤ b) (fun a b _ _ h1 h2 => Int.le_antisymm h1 h2) ?_ ?_ ((List.mergeSort_perm _ _).trans h.keys)
  · have := List.pairwise_mergeSort (le := leI) (fun a b c h1 h2 => by simp [leI] at *; omega) (fun a b => by simp [leI]; omega) (m.map (·.1))
    exact this.imp (fun h => by simpa [leI] using h)
  · exact (asc_iff.1 h.ok.asc).imp Int.le_of_lt
theorem RepN.set (h : RepN m L) {x : Tg} (hi : fget L x.f ≠ none) (hx : 0 ≤ x.f ∧ x.f < 32 ∧ 1 ≤ x.w ∧ x.w ≤ 16) : RepN (mput m x.f x) (setT x L) := by
  refine ⟨h.ok.set hx, ?_⟩
  rw [mput_set_perm (by rw [h.get]; exact Option.isSome_iff_ne_none.2 hi) h.uniq]
  have := h.perm.map (fun p : Int × Tg => if p.1 = x.f then (x.f, x) else p)
  refine this.trans (.of_eq ?_)
  unfold setT
  rw [List.map_map, List.map_map]
  refine List.map_congr_left fun t _ => ?_
  show (if t.f = x.f then (x.f, x) else (t.f, t)) = ((if t.f = x.f then x else t).f, if t.f = x.f then x else t)
  by_cases h : t.f = x.f
  · rw [if_pos h, if_pos h]
  · rw [if_neg h, if_neg h]
theorem RepN.ins (h : RepN m L) {x : Tg} (hn : fget L x.f = none) (hx : 0 ≤ x.f ∧ x.f < 32 ∧ 1 ≤ x.w ∧ x.w ≤ 16) : RepN (mput m x.f x) (insT x L) := by
  refine ⟨h.ok.ins hx hn, ?_⟩
  have hi : midx m x.f = none := by
    have := midx_mget m x.f
    rw [h.get, hn] at this
    simpa using this
  rw [mput_new x.f x m hi]
  have h1 : (m ++ [(x.f, x)]).Perm ((x.f, x) :: m) := List.perm_append_comm
  have h2 := (perm_insT x L).map pairT
  exact h1.trans ((h.perm.cons _).trans h2.symm)
theorem RepN.del (h : RepN m L) (k : Int) : RepN (mdel m k) (delT k L) := by
  refine ⟨h.ok.del k, ?_⟩
  rw [mdel_filter h.uniq]
  refine (h.perm.filter _).trans (.of_eq ?_)
  unfold delT
  rw [List.filter_map]
  rfl
theorem RepN.start : RepN [] [] := ⟨⟨.nil, by simp⟩, .refl _⟩
/-- Every tag turned in the same way. -/
theorem RepN.map (h : RepN m L) (g : Tg → Tg) (hg : ∀ t, (g t).f = t.f) (hok : NOk (L.map g)) : RepN (m.map fun p => (p.1, g p.2)) (L.map g) := by
  refine ⟨hok, ?_⟩
  refine (h.perm.map _).trans (.of_eq ?_)
  rw [List.map_map, List.map_map]
  refine List.map_congr_left fun t _ => ?_
  simp only [Function.comp, pairT, hg]
end
end Go.Proofs.Ytalkmeclkjnjnaa
