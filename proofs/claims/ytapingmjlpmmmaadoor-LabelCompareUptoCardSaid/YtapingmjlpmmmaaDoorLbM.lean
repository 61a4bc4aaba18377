/- Patterns in plain Lean: which runes a pattern matches, and that matching greedily is matching. -/
import Derived.Test.YtapingmjlpmmmaaDoorLab
namespace Go.Proofs.YtapingmjlpmmmaaDoor

def lkStar (f : List Nat → Bool) : List Nat → Bool
  | [] => f []
  | x :: t => f (x :: t) || lkStar f t
/-- The reference's like: 42 stands for any runes. -/
def lk : List Nat → List Nat → Bool
  | [] => List.isEmpty
  | c :: p => if c = 42 then lkStar (lk p) else fun s => match s with | [] => false | x :: t => decide (c = x) && lk p t

theorem lk_star (p s : List Nat) : lk (42 :: p) s = lkStar (lk p) s := rfl
theorem lk_lit {c : Nat} (h : c ≠ 42) (p : List Nat) (x : Nat) (t : List Nat) : lk (c :: p) (x :: t) = (decide (c = x) && lk p t) := by
  show (if c = 42 then _ else _ : List Nat → Bool) (x :: t) = _
  rw [if_neg h]
theorem lk_lit_nil {c : Nat} (h : c ≠ 42) (p : List Nat) : lk (c :: p) [] = false := by
  show (if c = 42 then _ else _ : List Nat → Bool) [] = _
  rw [if_neg h]

theorem lkStar_iff (f : List Nat → Bool) : ∀ s, lkStar f s = true ↔ ∃ u v, s = u ++ v ∧ f v = true
  | [] => by
    constructor
    · intro h; exact ⟨[], [], rfl, h⟩
    · rintro ⟨u, v, h, hv⟩
      have : v = [] := (List.append_eq_nil_iff.1 h.symm).2
      subst this; exact hv
  | x :: t => by
    unfold lkStar
    rw [Bool.or_eq_true, lkStar_iff f t]
    constructor
    · rintro (h | ⟨u, v, rfl, h⟩)
      · exact ⟨[], _, rfl, h⟩
      · exact ⟨x :: u, v, rfl, h⟩
    · rintro ⟨u, v, h, hv⟩
      cases u with
      | nil => left; rw [h]; exact hv
      | cons y u =>
        rw [List.cons_append, List.cons.injEq] at h
        exact .inr ⟨u, v, h.2, hv⟩

/-- Runes that are no star. -/
def lits (l : List Nat) : Prop := ∀ c ∈ l, c ≠ 42
theorem lk_lits : ∀ (l p s : List Nat), lits l → lk (l ++ p) (l ++ s) = lk p s
  | [], _, _, _ => rfl
  | c :: l, p, s, h => by
    rw [List.cons_append, List.cons_append, lk_lit (h c (by simp)), lk_lits l p s fun d hd => h d (by simp [hd])]
    simp
theorem lk_lits_iff : ∀ (l p s : List Nat), lits l → (lk (l ++ p) s = true ↔ ∃ v, s = l ++ v ∧ lk p v = true)
  | [], p, s, _ => ⟨fun h => ⟨s, rfl, h⟩, fun ⟨_, e, h⟩ => by rw [e]; exact h⟩
  | c :: l, p, [], h => by
    rw [List.cons_append, lk_lit_nil (h c (by simp))]
    simp
  | c :: l, p, x :: t, h => by
    rw [List.cons_append, lk_lit (h c (by simp)), Bool.and_eq_true, lk_lits_iff l p t fun d hd => h d (by simp [hd]), decide_eq_true_eq]
    constructor
    · rintro ⟨rfl, v, rfl, hv⟩; exact ⟨v, rfl, hv⟩
    · rintro ⟨v, e, hv⟩
      rw [List.cons_append, List.cons.injEq] at e
      exact ⟨e.1.symm, v, e.2, hv⟩

/-- A star takes up what stands ahead. -/
theorem lk_star_more (p u s : List Nat) (h : lk (42 :: p) s = true) : lk (42 :: p) (u ++ s) = true := by
  rw [lk_star, lkStar_iff] at *
  obtain ⟨a, b, rfl, hb⟩ := h
  exact ⟨u ++ a, b, (List.append_assoc _ _ _).symm, hb⟩

/-- At a second star the leftmost place of the runes between is as good as any. -/
theorem lk_leftmost (l r s : List Nat) (hl : lits l) : lk (42 :: (l ++ 42 :: r)) (l ++ s) = lk (42 :: r) s := by
  rw [Bool.eq_iff_iff]
  constructor
  · intro h
    rw [lk_star, lkStar_iff] at h
    obtain ⟨u, v, e, hv⟩ := h
    rw [lk_lits_iff l _ _ hl] at hv
    obtain ⟨v', rfl, hv'⟩ := hv
    have e2 : l ++ s = (u ++ l) ++ v' := by rw [e, List.append_assoc]
    obtain ⟨t, ht⟩ : ∃ t, s = t ++ v' := by
      have h1 := congrArg List.length e2
      simp only [List.length_append] at h1
      refine ⟨s.take (s.length - v'.length), ?_⟩
      have h2 : (l ++ s).drop (u.length + l.length) = v' := by
        rw [e2, List.drop_left' (by simp)]
      rw [List.drop_append, List.drop_eq_nil_of_le (by omega), List.nil_append] at h2
      rw [show s.length - v'.length = u.length + l.length - l.length by omega, ← h2, List.take_append_drop]
    rw [ht]
    exact lk_star_more _ _ _ hv'
  · intro h
    rw [lk_star, lkStar_iff]
    exact ⟨[], l ++ s, rfl, by rw [lk_lits l _ _ hl]; exact h⟩

/-- At the end of the runes. -/
theorem lk_ends (l r : List Nat) (hl : lits l) : lk (42 :: (l ++ r)) l = lk r [] := by
  rw [Bool.eq_iff_iff]
  constructor
  · intro h
    rw [lk_star, lkStar_iff] at h
    obtain ⟨u, v, e, hv⟩ := h
    rw [lk_lits_iff l _ _ hl] at hv
    obtain ⟨v', rfl, hv'⟩ := hv
    have h1 := congrArg List.length e
    simp only [List.length_append] at h1
    have : v' = [] := List.eq_nil_of_length_eq_zero (by omega)
    subst this; exact hv'
  · intro h
    rw [lk_star, lkStar_iff]
    refine ⟨[], l, rfl, ?_⟩
    have := lk_lits l r [] hl
    rw [List.append_nil] at this
    rw [this]; exact h
theorem lk_nil : ∀ (r : List Nat), lk r [] = r.all fun c => decide (c = 42)
  | [] => rfl
  | c :: r => by
    by_cases h : c = 42
    · subst h
      rw [lk_star, List.all_cons, ← lk_nil r]
      simp [lkStar]
    · rw [lk_lit_nil h, List.all_cons]
      simp [h]

/-- Where the runes behind a star do not fit, the star takes one more. -/
theorem lk_slip (l r s : List Nat) (c x : Nat) (hl : lits l) (hc : c ≠ 42) (hx : c ≠ x) (y : Nat) (t : List Nat) (hy : l ++ x :: s = y :: t) : lk (42 :: (l ++ c :: r)) (y :: t) = lk (42 :: (l ++ c :: r)) t := by
  rw [lk_star, lkStar]
  have : lk (l ++ c :: r) (y :: t) = false := by
    rw [← hy, lk_lits l _ _ hl, lk_lit hc, decide_eq_false hx, Bool.false_and]
  rw [this, Bool.false_or]
  rfl
theorem lk_slip_end (l s : List Nat) (x : Nat) (hl : lits l) (y : Nat) (t : List Nat) (hy : l ++ x :: s = y :: t) : lk (42 :: l) (y :: t) = lk (42 :: l) t := by
  rw [lk_star, lkStar]
  have : lk l (y :: t) = false := by
    have h := lk_lits l [] (x :: s) hl
    rw [List.append_nil] at h
    rw [← hy, h]; rfl
  rw [this, Bool.false_or]
  rfl

/-! ### The greedy way -/
/-- The last star (its place), the place that it reaches to, and the places in the pattern and the runes. -/
inductive Gr (P S : List Nat) : Int → Nat → Nat → Nat → Prop
  | free (i k : Nat) (hi : i ≤ P.length) (hk : k ≤ S.length) (h : lk P S = lk (P.drop i) (S.drop k)) : Gr P S (-1) 0 i k
  | star (z f i k : Nat) (l : List Nat) (hl : lits l) (hi : i ≤ P.length) (hk : k ≤ S.length) (hz : i = z + 1 + l.length) (hf : k = f + l.length)
      (hp : P.drop z = 42 :: (l ++ P.drop i)) (hs : S.drop f = l ++ S.drop k) (h : lk P S = lk (P.drop z) (S.drop f)) : Gr P S (z : Int) f i k

theorem drop_get {l : List Nat} {i c : Nat} (h : l[i]? = some c) : l.drop i = c :: l.drop (i + 1) := by
  obtain ⟨h1, h2⟩ := List.getElem?_eq_some_iff.1 h
  rw [List.drop_eq_getElem_cons h1, h2]
theorem get_lt {l : List Nat} {i c : Nat} (h : l[i]? = some c) : i < l.length := (List.getElem?_eq_some_iff.1 h).1

theorem Gr.start (P S : List Nat) : Gr P S (-1) 0 0 0 := .free 0 0 (by omega) (by omega) rfl
theorem Gr.atStar {P S : List Nat} {z : Int} {f i k : Nat} (g : Gr P S z f i k) (hc : P[i]? = some 42) : Gr P S (i : Int) k (i + 1) k := by
  have hd := drop_get hc
  have hlt := get_lt hc
  cases g with
  | free _ _ hi hk h =>
    refine .star i k (i + 1) k [] (by intro c hc; cases hc) (by omega) hk (by simp) (by simp) ?_ rfl h
    rw [hd]; rfl
  | star z f _ _ l hl hi hk hz hf hp hs h =>
    refine .star i k (i + 1) k [] (by intro c hc; cases hc) (by omega) hk (by simp) (by simp) ?_ rfl ?_
    · rw [hd]; rfl
    · rw [h, hp, hs, hd, lk_leftmost l _ _ hl]
theorem Gr.atSame {P S : List Nat} {z : Int} {f i k c : Nat} (g : Gr P S z f i k) (hc : P[i]? = some c) (hn : c ≠ 42) (hs : S[k]? = some c) : Gr P S z f (i + 1) (k + 1) := by
  have hd := drop_get hc
  have hlt := get_lt hc
  have hd2 := drop_get hs
  have hlt2 := get_lt hs
  cases g with
  | free _ _ hi hk h =>
    refine .free _ _ (by omega) (by omega) ?_
    rw [h, hd, hd2, lk_lit hn]; simp
  | star z f _ _ l hl hi hk hz hf hp hs' h =>
    refine .star z f (i + 1) (k + 1) (l ++ [c]) ?_ (by omega) (by omega) (by simp; omega) (by simp; omega) ?_ ?_ h
    · intro d hd; rcases List.mem_append.1 hd with hd | hd
      · exact hl d hd
      · simp at hd; subst hd; exact hn
    · rw [hp, hd]; simp
    · rw [hs', hd2]; simp
theorem Gr.slip {P S : List Nat} {z f i k x : Nat} (g : Gr P S (z : Int) f i k) (hx : S[k]? = some x) (hc : ∀ c, P[i]? = some c → c ≠ 42 ∧ c ≠ x) : Gr P S (z : Int) (f + 1) (z + 1) (f + 1) := by
  have hd2 := drop_get hx
  have hlt2 := get_lt hx
  generalize hzz : (z : Int) = zz at g ⊢
  cases g with
  | free => omega
  | star z' f _ _ l hl hi hk hz hf hp hs' h =>
    have : z' = z := by omega
    subst this
    have hf1 : f < S.length := by omega
    refine .star z' (f + 1) (z' + 1) (f + 1) [] (by intro c hc; cases hc) (by omega) (by omega) (by simp) (by simp) ?_ rfl ?_
    · have e := congrArg (List.drop 1) hp
      rw [List.drop_drop] at e
      rw [List.nil_append, e, hp]
      rfl
    · have e2 : S.drop f = S[f] :: S.drop (f + 1) := List.drop_eq_getElem_cons hf1
      rw [h, hp, e2]
      rw [e2, hd2] at hs'
      cases hP : P[i]? with
      | none =>
        have : P.drop i = [] := List.drop_eq_nil_of_le (by rw [List.getElem?_eq_none_iff] at hP; exact hP)
        rw [this, List.append_nil]
        exact lk_slip_end l _ x hl _ _ hs'.symm
      | some c =>
        obtain ⟨h1, h2⟩ := hc c hP
        rw [drop_get hP]
        exact lk_slip l _ _ c x hl h1 h2 _ _ hs'.symm
theorem Gr.fail {P S : List Nat} {f i k x : Nat} {z : Int} (g : Gr P S z f i k) (hz : z < 0) (hx : S[k]? = some x) (hc : ∀ c, P[i]? = some c → c ≠ 42 ∧ c ≠ x) : lk P S = false := by
  cases g with
  | star => omega
  | free _ _ hi hk h =>
    rw [h, drop_get hx]
    cases hP : P[i]? with
    | none =>
      rw [List.drop_eq_nil_of_le (by rw [List.getElem?_eq_none_iff] at hP; exact hP)]; rfl
    | some c =>
      obtain ⟨h1, h2⟩ := hc c hP
      rw [drop_get hP, lk_lit h1, decide_eq_false h2, Bool.false_and]
theorem Gr.ends {P S : List Nat} {f i k : Nat} {z : Int} (g : Gr P S z f i k) (hk : k = S.length) : lk P S = (P.drop i).all fun c => decide (c = 42) := by
  cases g with
  | free _ _ hi _ h =>
    rw [h, List.drop_eq_nil_of_le (show S.length ≤ k by omega), lk_nil]
  | star z f _ _ l hl hi _ hz hf hp hs' h =>
    rw [List.drop_eq_nil_of_le (show S.length ≤ k by omega), List.append_nil] at hs'
    rw [h, hp, hs', lk_ends l _ hl, lk_nil]

/-! ### Stars that stand side by side -/
/-- The reference's pattern: of stars side by side one is kept. -/
def dedup (q : List Nat) (c : Nat) : List Nat := if c ≠ 42 ∨ q.getLast? ≠ some 42 then q ++ [c] else q
theorem lk_prefix (a b : List Nat) (h : ∀ s, lk a s = lk b s) : ∀ (q s : List Nat), lk (q ++ a) s = lk (q ++ b) s
  | [], s => h s
  | c :: q, s => by
    by_cases hc : c = 42
    · subst hc
      rw [List.cons_append, List.cons_append, lk_star, lk_star]
      have : lk (q ++ a) = lk (q ++ b) := funext fun s => lk_prefix a b h q s
      rw [this]
    · cases s with
      | nil => rw [List.cons_append, List.cons_append, lk_lit_nil hc, lk_lit_nil hc]
      | cons x t => rw [List.cons_append, List.cons_append, lk_lit hc, lk_lit hc, lk_prefix a b h q t]
theorem lk_two (p s : List Nat) : lk (42 :: 42 :: p) s = lk (42 :: p) s := by
  rw [Bool.eq_iff_iff]
  constructor
  · intro h
    rw [lk_star, lkStar_iff] at h
    obtain ⟨u, v, rfl, hv⟩ := h
    exact lk_star_more _ _ _ hv
  · intro h
    rw [lk_star, lkStar_iff]
    exact ⟨[], s, rfl, h⟩
theorem lk_dedup (q : List Nat) (c : Nat) (r s : List Nat) : lk (dedup q c ++ r) s = lk (q ++ c :: r) s := by
  unfold dedup
  by_cases h : c ≠ 42 ∨ q.getLast? ≠ some 42
  · rw [if_pos h, List.append_assoc]; rfl
  · rw [if_neg h]
    have h1 : c = 42 := by
      rcases Nat.decEq c 42 with h2 | h2
      · exact absurd (.inl h2) h
      · exact h2
    have h2 : q.getLast? = some 42 := by
      rcases Decidable.em (q.getLast? = some 42) with h2 | h2
      · exact h2
      · exact absurd (.inr h2) h
    subst h1
    obtain ⟨p, rfl⟩ := List.getLast?_eq_some_iff.1 h2
    rw [List.append_assoc, List.append_assoc]
    exact (lk_prefix _ _ (fun s => lk_two r s) p s).symm
theorem lk_foldl : ∀ (l q : List Nat) (s : List Nat), lk (l.foldl dedup q) s = lk (q ++ l) s
  | [], q, s => by rw [List.append_nil]; rfl
  | c :: l, q, s => by rw [List.foldl_cons, lk_foldl l (dedup q c) s, lk_dedup]
end Go.Proofs.YtapingmjlpmmmaaDoor
