/- Tags in a list that ascends, and how a map represents them. -/
import Derived.Test.YtalkmeclkjnjnaaKeyO
namespace Go.Proofs.Ytalkmeclkjnjnaa
open Go.RowKit
open SP

/-- A tag: a flow, its weight, its start tag. -/
structure Tg where
  f : Int
  w : Int
  s : Int

instance : DecidableEq Tg := fun a b => decidable_of_iff (a.f = b.f ∧ a.w = b.w ∧ a.s = b.s) ⟨fun ⟨h1, h2, h3⟩ => by cases a; cases b; simp_all, fun h => by rw [h]; exact ⟨rfl, rfl, rfl⟩⟩

def tagV (t : Tg) : Value := .agg #[.int .i64 t.f, .int .i64 t.w, .int .i64 t.s]
def tagC (t : Tg) : List Value := [.int .i64 t.f, .int .i64 t.w, .int .i64 t.s]
theorem tagC_len (t : Tg) : (tagC t).length = 3 := rfl

/-- A list of active flows, ascending. -/
structure LOk (L : List Tg) : Prop where
  asc : L.Pairwise (fun a b => a.f < b.f)
  rng : ∀ t ∈ L, 0 ≤ t.f ∧ t.f < 32 ∧ 1 ≤ t.w ∧ t.w ≤ 16 ∧ 0 ≤ t.s ∧ t.s ≤ 1099511627776

def fget (L : List Tg) (k : Int) : Option Tg := L.find? (fun t => t.f == k)
def insT (x : Tg) : List Tg → List Tg
  | [] => [x]
  | t :: L => if t.f < x.f then t :: insT x L else x :: t :: L
def delT (k : Int) (L : List Tg) : List Tg := L.filter (fun t => !(t.f == k))
def setT (x : Tg) (L : List Tg) : List Tg := L.map (fun t => if t.f = x.f then x else t)
def pairT (t : Tg) : Int × Tg := (t.f, t)

theorem fget_cons (a : Tg) (L : List Tg) (k : Int) : fget (a :: L) k = if a.f = k then some a else fget L k := by
  unfold fget
  rw [List.find?_cons]
  by_cases h : a.f = k
  · have : (a.f == k) = true := by simpa using h
    rw [this, if_pos h]
  · have : (a.f == k) = false := by simpa using h
    rw [this, if_neg h]
theorem fget_some {L : List Tg} {k : Int} {t : Tg} (h : fget L k = some t) : t ∈ L ∧ t.f = k := by
  unfold fget at h
  exact ⟨List.mem_of_find?_eq_some h, by have := List.find?_some h; simpa using this⟩
theorem fget_none {L : List Tg} {k : Int} : fget L k = none ↔ ∀ t ∈ L, t.f ≠ k := by
  unfold fget; rw [List.find?_eq_none]; simp
theorem fget_mem {L : List Tg} (h : LOk L) {t : Tg} (ht : t ∈ L) : fget L t.f = some t := by
  have h1 := h.asc
  clear h
  induction L with
  | nil => simp at ht
  | cons a L ih =>
    rw [List.pairwise_cons] at h1
    unfold fget
    rw [List.find?_cons]
    rcases List.mem_cons.1 ht with rfl | ht
    · simp
    · have := h1.1 t ht
      have hne : (a.f == t.f) = false := by simpa using Int.ne_of_lt this
      rw [hne]
      exact ih ht h1.2
theorem LOk.inj {L : List Tg} (h : LOk L) {a b : Tg} (ha : a ∈ L) (hb : b ∈ L) (e : a.f = b.f) : a = b := by
  have h1 := fget_mem h ha
  have h2 := fget_mem h hb
  rw [e, h2] at h1
  simpa using h1.symm

theorem mem_insT {x t : Tg} {L : List Tg} : t ∈ insT x L ↔ t = x ∨ t ∈ L := by
  induction L with
  | nil => simp [insT]
  | cons a L ih =>
    unfold insT
    split
    · simp only [List.mem_cons, ih]
      constructor
      · rintro (h | h | h) <;> simp [h]
      · rintro (h | h | h) <;> simp [h]
    · simp
theorem perm_insT (x : Tg) : ∀ L : List Tg, (insT x L).Perm (x :: L)
  | [] => .refl _
  | a :: L => by
    unfold insT
    split
    · exact ((perm_insT x L).cons a).trans (.swap x a L)
    · exact .refl _
theorem LOk.ins {L : List Tg} (h : LOk L) {x : Tg} (hx : 0 ≤ x.f ∧ x.f < 32 ∧ 1 ≤ x.w ∧ x.w ≤ 16 ∧ 0 ≤ x.s ∧ x.s ≤ 1099511627776) (hn : fget L x.f = none) : LOk (insT x L) := by
  have hne := fget_none.1 hn
  refine ⟨?_, fun t ht => ?_⟩
  · have h1 := h.asc
    clear h hn
    induction L with
    | nil => simp [insT]
    | cons a L ih =>
      rw [List.pairwise_cons] at h1
      unfold insT
      split
      · rename_i hlt
        rw [List.pairwise_cons]
        refine ⟨fun t ht => ?_, ih (fun t ht => hne t (by simp [ht])) h1.2⟩
        rcases mem_insT.1 ht with rfl | ht
        · exact hlt
        · exact h1.1 t ht
      · rename_i hlt
        have ha := hne a (by simp)
        rw [List.pairwise_cons]
        refine ⟨fun t ht => ?_, List.pairwise_cons.2 h1⟩
        rcases List.mem_cons.1 ht with rfl | ht
        · omega
        · have := h1.1 t ht; omega
  · rcases mem_insT.1 ht with rfl | ht
    · exact hx
    · exact h.rng t ht
theorem LOk.del {L : List Tg} (h : LOk L) (k : Int) : LOk (delT k L) :=
  ⟨h.asc.sublist List.filter_sublist, fun t ht => h.rng t (List.mem_filter.1 ht).1⟩
theorem mem_delT {L : List Tg} {k : Int} {t : Tg} : t ∈ delT k L ↔ t ∈ L ∧ t.f ≠ k := by
  unfold delT; rw [List.mem_filter]; simp
theorem setT_f (x : Tg) (L : List Tg) : (setT x L).map (·.f) = L.map (·.f) := by
  unfold setT
  rw [List.map_map]
  refine List.map_congr_left fun t _ => ?_
  simp only [Function.comp]
  split
  · rename_i h; exact h.symm
  · rfl
theorem mem_setT {x t : Tg} {L : List Tg} (h : t ∈ setT x L) : t = x ∨ t ∈ L ∧ t.f ≠ x.f := by
  unfold setT at h
  obtain ⟨u, hu, rfl⟩ := List.mem_map.1 h
  split
  · exact .inl rfl
  · rename_i h'; exact .inr ⟨hu, h'⟩
theorem mem_setT_of {x t : Tg} {L : List Tg} (h : t ∈ L) (hne : t.f ≠ x.f) : t ∈ setT x L :=
  List.mem_map.2 ⟨t, h, by rw [if_neg hne]⟩
theorem mem_setT_self {x t : Tg} {L : List Tg} (h : t ∈ L) (he : t.f = x.f) : x ∈ setT x L :=
  List.mem_map.2 ⟨t, h, by rw [if_pos he]⟩
theorem asc_iff {L : List Tg} : L.Pairwise (fun a b => a.f < b.f) ↔ (L.map (·.f)).Pairwise (· < ·) := by rw [List.pairwise_map]
theorem LOk.set {L : List Tg} (h : LOk L) {x : Tg} (hx : 0 ≤ x.f ∧ x.f < 32 ∧ 1 ≤ x.w ∧ x.w ≤ 16 ∧ 0 ≤ x.s ∧ x.s ≤ 1099511627776) : LOk (setT x L) := by
  refine ⟨?_, fun t ht => ?_⟩
  · rw [asc_iff, setT_f, ← asc_iff]; exact h.asc
  · rcases mem_setT ht with rfl | ⟨ht, _⟩
    · exact hx
    · exact h.rng t ht
theorem LOk.len {L : List Tg} (h : LOk L) : L.length ≤ 32 := by
  have key : ∀ (l : List Int) (n : Int), l.Pairwise (· < ·) → (∀ x ∈ l, n ≤ x ∧ x < 32) → n ≤ 32 → (l.length : Int) ≤ 32 - n := by
    intro l
    induction l with
    | nil => intro n _ _ h; simp; omega
    | cons a l ih =>
      intro n hp hr hn
      rw [List.pairwise_cons] at hp
      have ha := hr a (by simp)
      have := ih (a + 1) hp.2 (fun x hx => ⟨by have := hp.1 x hx; omega, (hr x (by simp [hx])).2⟩) (by omega)
      rw [List.length_cons]
      omega
  have := key (L.map (·.f)) 0 (asc_iff.1 h.asc) (fun x hx => by
    obtain ⟨t, ht, rfl⟩ := List.mem_map.1 hx
    exact ⟨(h.rng t ht).1, (h.rng t ht).2.1⟩) (by omega)
  rw [List.length_map] at this
  omega

/-- The map holds the active flows, in whatever order. -/
structure Rep (m : List (Int × Tg)) (L : List Tg) : Prop where
  ok : LOk L
  perm : m.Perm (L.map pairT)

section
variable {m : List (Int × Tg)} {L : List Tg}
theorem Rep.keys (h : Rep m L) : (m.map (·.1)).Perm (L.map (·.f)) := by
  have := h.perm.map (·.1)
  rw [List.map_map] at this
  exact this
theorem Rep.uniq (h : Rep m L) : Uniq m := by
  unfold Uniq
  rw [h.keys.nodup_iff]
  exact (asc_iff.1 h.ok.asc).imp Int.ne_of_lt
theorem Rep.keyOk (h : Rep m L) : KeyOk m := by
  refine ⟨h.uniq, fun x hx => ?_⟩
  have := h.keys.mem_iff.1 (List.mem_map.2 ⟨x, hx, rfl⟩)
  obtain ⟨t, ht, he⟩ := List.mem_map.1 this
  have := h.ok.rng t ht
  omega
theorem Rep.len (h : Rep m L) : m.length = L.length := by rw [h.perm.length_eq, List.length_map]
theorem Rep.get (h : Rep m L) (k : Int) : mget m k = fget L k := by
  cases hf : fget L k with
  | none =>
    rw [mget_none]
    intro hk
    obtain ⟨t, ht, he⟩ := List.mem_map.1 (h.keys.mem_iff.1 hk)
    exact fget_none.1 hf t ht he
  | some t =>
    obtain ⟨h1, h2⟩ := fget_some hf
    have : pairT t ∈ m := h.perm.mem_iff.2 (List.mem_map.2 ⟨t, h1, rfl⟩)
    have := mget_mem h.uniq this
    rw [← h2]; exact this
theorem Rep.sort (h : Rep m L) : sortK m = L.map (·.f) := by
  unfold sortK
  refine List.Perm.eq_of_pairwise (le := fun a b => a ≤ b) (fun a b _ _ h1 h2 => Int.le_antisymm h1 h2) ?_ ?_ ((List.mergeSort_perm _ _).trans h.keys)
  · have := List.pairwise_mergeSort (le := leI) (fun a b c h1 h2 => by simp [leI] at *; omega) (fun a b => by simp [leI]; omega) (m.map (·.1))
    exact this.imp (fun h => by simpa [leI] using h)
  · exact (asc_iff.1 h.ok.asc).imp Int.le_of_lt
theorem mput_set_perm {x : Tg} (hi : (mget m x.f).isSome) (hu : Uniq m) : mput m x.f x = m.map (fun p => if p.1 = x.f then (x.f, x) else p) := by
  induction m with
  | nil => simp [mget] at hi
  | cons p m ih =>
    obtain ⟨k0, v0⟩ := p
    unfold Uniq at hu
    rw [List.map_cons, List.nodup_cons] at hu
    unfold mput
    by_cases hk : x.f = k0
    · subst hk
      rw [if_pos rfl, List.map_cons, if_pos rfl]
      congr 1
      symm
      rw [List.map_congr_left (g := id) (fun p hp => ?_), List.map_id]
      rw [if_neg]; rfl
      intro e
      exact hu.1 (List.mem_map.2 ⟨p, hp, e⟩)
    · rw [if_neg hk, List.map_cons, if_neg (fun e => hk e.symm)]
      rw [ih (by unfold mget at hi; rw [if_neg hk] at hi; exact hi) hu.2]
theorem Rep.set (h : Rep m L) {x : Tg} (hi : fget L x.f ≠ none) (hx : 0 ≤ x.f ∧ x.f < 32 ∧ 1 ≤ x.w ∧ x.w ≤ 16 ∧ 0 ≤ x.s ∧ x.s ≤ 1099511627776) : Rep (mput m x.f x) (setT x L) := by
  refine ⟨h.ok.set hx, ?_⟩
  rw [mput_set_perm (by rw [h.get]; exact Option.isSome_iff_ne_none.2 hi) h.uniq]
  have := h.perm.map (fun p : Int × Tg => if p.1 = x.f then (x.f, x) else p)
  refine this.trans (.of_eq ?_)
  unfold setT
  rw [List.map_map, List.map_map]
  refine List.map_congr_left fun t _ => ?_
  show (if t.f = x.f then (x.f, x) else (t.f, t)) = ((if t.f = x.f then x else t).f, if t.f = x.f then x else t)
  by_cases h : t.f = x.f
  · rw [if_pos h, if_pos h]
  · rw [if_neg h, if_neg h]
theorem Rep.ins (h : Rep m L) {x : Tg} (hn : fget L x.f = none) (hx : 0 ≤ x.f ∧ x.f < 32 ∧ 1 ≤ x.w ∧ x.w ≤ 16 ∧ 0 ≤ x.s ∧ x.s ≤ 1099511627776) : Rep (mput m x.f x) (insT x L) := by
  refine ⟨h.ok.ins hx hn, ?_⟩
  have hi : midx m x.f = none := by
    have := midx_mget m x.f
    rw [h.get, hn] at this
    simpa using this
  rw [mput_new x.f x m hi]
  have h1 : (m ++ [(x.f, x)]).Perm ((x.f, x) :: m) := List.perm_append_comm
  have h2 := (perm_insT x L).map pairT
  exact h1.trans ((h.perm.cons _).trans h2.symm)
theorem mdel_filter (hu : Uniq m) (k : Int) : mdel m k = m.filter (fun p => !(p.1 == k)) := by
  induction m with
  | nil => rfl
  | cons p m ih =>
    obtain ⟨k0, v0⟩ := p
    unfold Uniq at hu
    rw [List.map_cons, List.nodup_cons] at hu
    unfold mdel
    by_cases hk : k = k0
    · subst hk
      rw [if_pos rfl, List.filter_cons_of_neg (by simp)]
      symm
      rw [List.filter_eq_self]
      intro p hp
      have : p.1 ≠ k := fun e => hu.1 (List.mem_map.2 ⟨p, hp, e⟩)
      simpa using this
    · rw [if_neg hk, List.filter_cons_of_pos (by simpa using Ne.symm hk), ih hu.2]
theorem Rep.del (h : Rep m L) (k : Int) : Rep (mdel m k) (delT k L) := by
  refine ⟨h.ok.del k, ?_⟩
  rw [mdel_filter h.uniq]
  refine (h.perm.filter _).trans (.of_eq ?_)
  unfold delT
  rw [List.filter_map]
  rfl
theorem Rep.start : Rep [] [] := ⟨⟨.nil, by simp⟩, .refl _⟩
/-- Every tag turned in the same way. -/
theorem Rep.map (h : Rep m L) (g : Tg → Tg) (hg : ∀ t, (g t).f = t.f) (hok : LOk (L.map g)) : Rep (m.map fun p => (p.1, g p.2)) (L.map g) := by
  refine ⟨hok, ?_⟩
  refine (h.perm.map _).trans (.of_eq ?_)
  rw [List.map_map, List.map_map]
  refine List.map_congr_left fun t _ => ?_
  simp only [Function.comp, pairT, hg]
end
end Go.Proofs.Ytalkmeclkjnjnaa
