/- CompScript, the plain law: the order of comp and the reference order stand for the same state. -/
import Derived.Test.YtnandakoigmknaaRefForget
import Derived.Test.YtnandakoigmknaaCopy
namespace Go.Proofs.Ytnandakoigmknaa
open Go.RowKit
open SP

structure CsRel (el tg : List (Int × Int)) (tm : Int) (tags : List Int) (now : Int) : Prop where
  uniq : Uniq tg
  vals : ∀ x ∈ tg, 0 ≤ x.2 ∧ x.2 ≤ 1099511627776
  el : eligBad (-1) el = false
  len : tags.length = 32
  tag : ∀ f, tget tg f = if 0 ≤ f ∧ f < 32 then tags.getD f.toNat 0 else 0
  now : now = tm
  tm : 0 ≤ tm ∧ tm ≤ 1099511627776

theorem elig_asc : ∀ (el : List (Int × Int)) (last : Int), eligBad last el = false → el.Pairwise (fun a b => a.1 < b.1) ∧ ∀ p ∈ el, last < p.1 ∧ p.1 < 32 ∧ 1 ≤ p.2 ∧ p.2 ≤ 16
  | [], _, _ => ⟨.nil, by simp⟩
  | p :: el, last, h => by
    have h1 : ¬ eligBad last (p :: el) = true := by rw [h]; simp
    rw [eligBad_step] at h1
    have h2 : ¬ eligBad p.1 el = true := fun e => h1 (.inr (.inr (.inr (.inr e))))
    obtain ⟨h3, h4⟩ := elig_asc el p.1 (by simpa using h2)
    have a1 : last < p.1 := by have : ¬ p.1 ≤ last := fun e => h1 (.inl e); omega
    have a2 : p.1 < 32 := by have : ¬ 32 ≤ p.1 := fun e => h1 (.inr (.inl e)); omega
    have a3 : 1 ≤ p.2 := by have : ¬ p.2 < 1 := fun e => h1 (.inr (.inr (.inl e))); omega
    have a4 : p.2 ≤ 16 := by have : ¬ 16 < p.2 := fun e => h1 (.inr (.inr (.inr (.inl e)))); omega
    refine ⟨List.pairwise_cons.2 ⟨fun q hq => (h4 q hq).1, h3⟩, fun q hq => ?_⟩
    rcases List.mem_cons.1 hq with rfl | hq
    · exact ⟨a1, a2, a3, a4⟩
    · have := h4 q hq; omega
theorem elig_of : ∀ (el : List (Int × Int)) (last : Int), el.Pairwise (fun a b => a.1 < b.1) → (∀ p ∈ el, last < p.1 ∧ p.1 < 32 ∧ 1 ≤ p.2 ∧ p.2 ≤ 16) → eligBad last el = false := fun el last h1 h2 =>
  eligBad_ok el last (by rw [List.pairwise_map]; exact h1) h2

section
variable {el tg : List (Int × Int)} {tm now : Int} {tags : List Int}
theorem CsRel.start : CsRel [] [] 0 (List.replicate 32 0) 0 := by
  refine ⟨by simp [Uniq], by simp, rfl, by decide, fun f => ?_, rfl, by simp⟩
  show (0 : Int) = _
  split
  · rename_i h
    have : f.toNat < 32 := by omega
    rw [List.getD_eq_getElem?_getD, List.getElem?_replicate, if_pos this]; rfl
  · rfl
theorem CsRel.keys (h : CsRel el tg tm tags now) : el.Pairwise (fun a b => a.1 < b.1) ∧ ∀ p ∈ el, 0 ≤ p.1 ∧ p.1 < 32 ∧ 1 ≤ p.2 ∧ p.2 ≤ 16 := by
  obtain ⟨h1, h2⟩ := elig_asc el (-1) h.el
  exact ⟨h1, fun p hp => by have := h2 p hp; omega⟩
theorem asc_uniq (h : el.Pairwise (fun a b => a.1 < b.1)) : Uniq el := by
  unfold Uniq
  rw [List.Nodup, List.pairwise_map]
  exact h.imp Int.ne_of_lt
theorem CsRel.keyOk (h : CsRel el tg tm tags now) : KeyOk el := ⟨asc_uniq h.keys.1, fun x hx => by have := h.keys.2 x hx; omega⟩
theorem CsRel.elen (h : CsRel el tg tm tags now) : el.length ≤ 32 := by
  have key : ∀ (l : List (Int × Int)) (n : Int), l.Pairwise (fun a b => a.1 < b.1) → (∀ x ∈ l, n ≤ x.1 ∧ x.1 < 32) → n ≤ 32 → (l.length : Int) ≤ 32 - n := by
    intro l
    induction l with
    | nil => intro n _ _ h; simp; omega
    | cons a l ih =>
      intro n hp hr hn
      rw [List.pairwise_cons] at hp
      have ha := hr a (by simp)
      have := ih (a.1 + 1) hp.2 (fun x hx => ⟨by have := hp.1 x hx; omega, (hr x (by simp [hx])).2⟩) (by omega)
      rw [List.length_cons]
      omega
  have := key el 0 h.keys.1 (fun x hx => by have := h.keys.2 x hx; omega) (by omega)
  omega
theorem CsRel.tval (h : CsRel el tg tm tags now) : ∀ x ∈ tags, 0 ≤ x ∧ x ≤ 1099511627776 := fun x hx => by
  obtain ⟨i, hi⟩ := List.getElem?_of_mem hx
  have hl := (List.getElem?_eq_some_iff.1 hi).1
  have h1 := h.tag (i : Int)
  rw [if_pos (by have := h.len; omega), Int.toNat_natCast, List.getD_eq_getElem?_getD, hi] at h1
  have h2 := tget_range h.vals (i : Int)
  rw [h1] at h2
  exact h2
theorem CsRel.sortK (h : CsRel el tg tm tags now) : Go.Proofs.Ytnandakoigmknaa.sortK el = el.map (·.1) := by
  unfold Go.Proofs.Ytnandakoigmknaa.sortK
  refine List.Perm.eq_of_pairwise (le := fun a b => a ≤ b) (fun a b _ _ h1 h2 => Int.le_antisymm h1 h2) ?_ ?_ (List.mergeSort_perm _ _)
  · have := List.pairwise_mergeSort (le := leI) (fun a b c h1 h2 => by simp [leI] at *; omega) (fun a b => by simp [leI]; omega) (el.map (·.1))
    exact this.imp (fun h => by simpa [leI] using h)
  · rw [List.pairwise_map]; exact h.keys.1.imp Int.le_of_lt

theorem least_sel (htag : ∀ f, tget tg f = if 0 ≤ f ∧ f < 32 then tags.getD f.toNat 0 else 0) : ∀ (l : List (Int × Int)) (k : Int), 0 ≤ k → k < 32 → (∀ p ∈ l, 0 ≤ p.1 ∧ p.1 < 32) → leastL tg (l.map (·.1)) k = selL tags l k
  | [], _, _, _, _ => rfl
  | p :: l, k, h0, h1, hp => by
    have hpp := hp p (by simp)
    rw [List.map_cons]
    unfold leastL selL
    have e1 : (k < 0 ∨ tget tg p.1 < tget tg k) ↔ tags.getD p.1.toNat 0 < tags.getD k.toNat 0 := by
      rw [htag p.1, htag k, if_pos hpp, if_pos ⟨h0, h1⟩]
      constructor
      · rintro (h | h)
        · omega
        · exact h
      · exact .inr
    simp only [e1]
    refine least_sel htag l _ ?_ ?_ (fun q hq => hp q (by simp [hq])) <;> split <;> omega
theorem CsRel.least (h : CsRel el tg tm tags now) : leastF el tg = match el with | [] => -1 | p :: l => selL tags l p.1 := by
  unfold leastF
  rw [h.sortK]
  have hk := h.keys.2
  cases el with
  | nil => rfl
  | cons p l =>
    have hp := hk p (by simp)
    rw [List.map_cons]
    unfold leastL
    rw [if_pos (.inl (by omega))]
    exact least_sel h.tag l p.1 hp.1 hp.2.1 (fun q hq => by have := hk q (by simp [hq]); omega)
theorem selL_mem (tags : List Int) : ∀ (l : List (Int × Int)) (k : Int), selL tags l k = k ∨ selL tags l k ∈ l.map (·.1)
  | [], _ => .inl rfl
  | p :: l, k => by
    unfold selL
    rcases selL_mem tags l (if tags.getD p.1.toNat 0 < tags.getD k.toNat 0 then p.1 else k) with h | h
    · rw [h]
      split
      · exact .inr (by simp)
      · exact .inl rfl
    · exact .inr (by simp only [List.map_cons, List.mem_cons]; exact .inr h)
theorem CsRel.sel (h : CsRel el tg tm tags now) : selV el tg = refSel tags el := by
  unfold selV
  rw [h.least]
  have hk := h.keys.2
  cases el with
  | nil => rfl
  | cons p l =>
    have h0 : 0 ≤ selL tags l p.1 := by
      rcases selL_mem tags l p.1 with h1 | h1
      · rw [h1]; exact (hk p (by simp)).1
      · obtain ⟨q, hq, hqe⟩ := List.mem_map.1 h1
        rw [← hqe]; exact (hk q (by simp [hq])).1
    show (if selL tags l p.1 < 0 then _ else _) = _
    rw [if_neg (by omega)]
    rfl

/-! ### Forget -/
theorem mdel_eraseF (f : Int) : ∀ el : List (Int × Int), mdel el f = eraseF f el
  | [] => rfl
  | p :: el => by
    obtain ⟨k, v⟩ := p
    unfold mdel eraseF
    by_cases h : f = k
    · rw [if_pos h, if_pos h.symm]
    · rw [if_neg h, if_neg (Ne.symm h), mdel_eraseF f el]
theorem eraseF_sub (f : Int) : ∀ el : List (Int × Int), (eraseF f el).Sublist el
  | [] => .slnil
  | p :: el => by
    unfold eraseF
    split
    · exact List.sublist_cons_self _ _
    · exact (eraseF_sub f el).cons_cons p
theorem mdel_mem {α : Type} {m : List (Int × α)} {k : Int} {x : Int × α} (h : x ∈ mdel m k) : x ∈ m := by
  induction m with
  | nil => exact h
  | cons p m ih =>
    obtain ⟨k', v⟩ := p
    unfold mdel at h
    split at h
    · exact List.mem_cons_of_mem _ h
    · rcases List.mem_cons.1 h with rfl | h
      · simp
      · exact List.mem_cons_of_mem _ (ih h)
theorem getD_set {l : List Int} {i j : Nat} {v : Int} (hi : i < l.length) : (l.set i v).getD j 0 = if j = i then v else l.getD j 0 := by
  rw [List.getD_eq_getElem?_getD, List.getElem?_set, List.getD_eq_getElem?_getD]
  by_cases h : i = j
  · rw [if_pos h, if_pos hi, if_pos h.symm]; rfl
  · rw [if_neg h, if_neg (Ne.symm h)]
theorem CsRel.forget (h : CsRel el tg tm tags now) (f : Int) : CsRel (eraseF f el) (mdel tg f) tm (forgetTags tags f) now := by
  obtain ⟨k1, k2⟩ := h.keys
  refine ⟨h.uniq.mdel f, fun x hx => h.vals x (mdel_mem hx), elig_of _ _ (k1.sublist (eraseF_sub f el)) (fun p hp => by have := k2 p ((eraseF_sub f el).subset hp); omega), ?_, fun g => ?_, h.now, h.tm⟩
  · unfold forgetTags; split
    · rw [List.length_set]; exact h.len
    · exact h.len
  · have hg : tget (mdel tg f) g = if g = f then 0 else tget tg g := by
      unfold tget
      rw [mget_mdel h.uniq]
      split <;> rfl
    rw [hg, h.tag g]
    unfold forgetTags
    have hl := h.len
    by_cases hf : 0 ≤ f ∧ f < 32
    · rw [if_pos hf]
      by_cases hgr : 0 ≤ g ∧ g < 32
      · rw [if_pos hgr, if_pos hgr, getD_set (by omega)]
        by_cases e : g = f
        · rw [if_pos e, if_pos (by rw [e])]
        · rw [if_neg e, if_neg (by omega)]
      · rw [if_neg hgr, if_neg hgr]; split <;> rfl
    · rw [if_neg hf]
      by_cases e : g = f
      · rw [if_pos e, if_neg (by rw [e]; exact hf)]
      · rw [if_neg e]
end
end Go.Proofs.Ytnandakoigmknaa
