/- A small separation logic over the blocks of a world: which blocks a value owns, and how stores, new blocks and appends change that. -/
import Derived.WalkKit
import Derived.WalkLawsBesides
import Derived.WalkSpells
import Derived.Deep.QuietTactic
import Derived.BigQuiet
import Derived.StillTailTactics
namespace Go.Proofs.YtlccalkikjfimaaGreatDoor
open Go.RowKit

/-- A part of a heap. -/
abbrev Hp := Nat → Option Obj
/-- A statement on a part of a heap. -/
def SP := Hp → Prop

def Hp.emp : Hp := fun _ => none
def Hp.cup (a b : Hp) : Hp := fun k => match a k with | some o => some o | none => b k
def Hp.apart (a b : Hp) : Prop := ∀ k, a k = none ∨ b k = none

theorem Hp.cup_comm {a b : Hp} (h : a.apart b) : a.cup b = b.cup a := by
  funext k
  unfold Hp.cup
  rcases h k with h | h <;> rw [h] <;> cases a k <;> cases b k <;> simp_all

theorem Hp.cup_assoc (a b c : Hp) : (a.cup b).cup c = a.cup (b.cup c) := by
  funext k; unfold Hp.cup; cases a k <;> rfl

theorem Hp.cup_none {a b : Hp} {k : Nat} : a.cup b k = none ↔ a k = none ∧ b k = none := by
  unfold Hp.cup; cases a k <;> simp

theorem Hp.apart.symm {a b : Hp} (h : a.apart b) : b.apart a := fun k => (h k).symm

theorem Hp.apart_cup {a b c : Hp} : a.apart (b.cup c) ↔ a.apart b ∧ a.apart c := by
  constructor
  · intro h
    refine ⟨fun k => ?_, fun k => ?_⟩ <;> rcases h k with h | h
    · exact .inl h
    · exact .inr (Hp.cup_none.1 h).1
    · exact .inl h
    · exact .inr (Hp.cup_none.1 h).2
  · intro ⟨h1, h2⟩ k
    rcases h1 k with h | h
    · exact .inl h
    · rcases h2 k with h' | h'
      · exact .inl h'
      · exact .inr (Hp.cup_none.2 ⟨h, h'⟩)

def Sep : List SP → Hp → Prop
  | [], σ => σ = Hp.emp
  | A :: l, σ => ∃ a b, A a ∧ Sep l b ∧ a.apart b ∧ σ = a.cup b

theorem Sep.swap {A B : SP} {l : List SP} {σ : Hp} (h : Sep (A :: B :: l) σ) : Sep (B :: A :: l) σ := by
  obtain ⟨a, x, hA, ⟨b, c, hB, hl, hbc, rfl⟩, hax, rfl⟩ := h
  obtain ⟨hab, hac⟩ := Hp.apart_cup.1 hax
  refine ⟨b, a.cup c, hB, ⟨a, c, hA, hl, hac, rfl⟩, Hp.apart_cup.2 ⟨hab.symm, hbc⟩, ?_⟩
  rw [← Hp.cup_assoc, ← Hp.cup_assoc, Hp.cup_comm hab]

theorem Sep.perm {l l' : List SP} (h : l.Perm l') : ∀ {σ : Hp}, Sep l σ → Sep l' σ := by
  induction h with
  | nil => exact fun h => h
  | cons A _ ih => rintro σ ⟨a, b, hA, hl, hab, rfl⟩; exact ⟨a, b, hA, ih hl, hab, rfl⟩
  | swap A B l => exact fun h => h.swap
  | trans _ _ ih1 ih2 => exact fun h => ih2 (ih1 h)

theorem Sep.append {l m : List SP} : ∀ {σ : Hp}, Sep (l ++ m) σ ↔ ∃ a b, Sep l a ∧ Sep m b ∧ a.apart b ∧ σ = a.cup b := by
  induction l with
  | nil =>
    intro σ
    constructor
    · intro h; exact ⟨Hp.emp, σ, rfl, h, fun _ => .inl rfl, rfl⟩
    · rintro ⟨a, b, rfl, h, _, rfl⟩; exact h
  | cons A l ih =>
    intro σ
    constructor
    · rintro ⟨a, b, hA, hl, hab, rfl⟩
      obtain ⟨c, d, h1, h2, hcd, rfl⟩ := ih.1 hl
      obtain ⟨hac, had⟩ := Hp.apart_cup.1 hab
      refine ⟨a.cup c, d, ⟨a, c, hA, h1, hac, rfl⟩, h2, (Hp.apart_cup.2 ⟨had.symm, hcd.symm⟩).symm, (Hp.cup_assoc _ _ _).symm⟩
    · rintro ⟨x, d, ⟨a, c, hA, h1, hac, rfl⟩, h2, hxd, rfl⟩
      obtain ⟨hda, hdc⟩ := Hp.apart_cup.1 hxd.symm
      exact ⟨a, c.cup d, hA, ih.2 ⟨c, d, h1, h2, hdc.symm, rfl⟩, Hp.apart_cup.2 ⟨hac, hda.symm⟩, Hp.cup_assoc _ _ _⟩

/-- The world owns these parts, each apart from the others (and maybe more blocks besides). -/
def Own (w : World) (l : List SP) : Prop := ∃ σ, Sep l σ ∧ ∀ k o, σ k = some o → w.heap[k]? = some o

/-- What a call may not change beside memory. -/
structure Calm (w w' : World) : Prop where
  os : w'.os = w.os
  tape : w'.tape = w.tape
  output : w'.output = w.output
theorem Calm.refl (w : World) : Calm w w := ⟨rfl, rfl, rfl⟩
theorem Calm.trans {a b c : World} (h : Calm a b) (k : Calm b c) : Calm a c := ⟨k.os.trans h.os, k.tape.trans h.tape, k.output.trans h.output⟩

namespace SP
def ex {α : Type} (f : α → SP) : SP := fun σ => ∃ x, f x σ
def pu (p : Prop) : SP := fun σ => p ∧ σ = Hp.emp
def st (l : List SP) : SP := Sep l
def blk (b : Nat) (o : Obj) : SP := fun σ => σ = fun k => if k = b then some o else none
/-- A row of cells in a block of its own, no cell of it frozen. -/
def cel (b : Nat) (T : TypeId) (vs : List Value) : SP := blk b (.cells vs.toArray T (0, 0))
/-- All blocks that 'W' has, as 'W' has them. -/
def old (W : World) : SP := fun σ => σ = fun k => W.heap[k]?
end SP
open SP

section
variable {w w' : World} {l l' : List SP} {A B : SP}

theorem Own.perm (o : Own w l) (h : l.Perm l') : Own w l' := let ⟨σ, hs, hw⟩ := o; ⟨σ, hs.perm h, hw⟩
theorem Own.swap (o : Own w (A :: B :: l)) : Own w (B :: A :: l) := o.perm (.swap B A l)
theorem perm_up : ∀ (n : Nat) (l : List SP) (A : SP), l[n]? = some A → l.Perm (A :: l.eraseIdx n)
  | 0, [], _, h => by simp at h
  | 0, B :: l, A, h => by simp at h; subst h; exact .refl _
  | n + 1, [], _, h => by simp at h
  | n + 1, B :: l, A, h => by
    have := perm_up n l A (by simpa using h)
    exact (this.cons B).trans (.swap A B _)
/-- Bring part number n to the front. -/
theorem Own.up (n : Nat) (o : Own w l) {A : SP} (h : l[n]? = some A := by rfl) : Own w (A :: l.eraseIdx n) := o.perm (perm_up n l A h)

theorem Own.nil (w : World) : Own w [] := ⟨Hp.emp, rfl, fun _ _ h => by simp [Hp.emp] at h⟩

theorem Own.drop (o : Own w (A :: l)) : Own w l := by
  obtain ⟨σ, ⟨a, b, _, hl, hab, rfl⟩, hw⟩ := o
  refine ⟨b, hl, fun k x hk => hw k x ?_⟩
  rcases hab k with h | h
  · simp [Hp.cup, h, hk]
  · rw [h] at hk; cases hk

theorem Own.ex {α : Type} {f : α → SP} : Own w (SP.ex f :: l) ↔ ∃ x, Own w (f x :: l) := by
  constructor
  · rintro ⟨σ, ⟨a, b, ⟨x, hx⟩, r⟩, hw⟩; exact ⟨x, σ, ⟨a, b, hx, r⟩, hw⟩
  · rintro ⟨x, σ, ⟨a, b, hx, r⟩, hw⟩; exact ⟨σ, ⟨a, b, ⟨x, hx⟩, r⟩, hw⟩

theorem Own.pu {p : Prop} : Own w (SP.pu p :: l) ↔ p ∧ Own w l := by
  constructor
  · intro h
    refine ⟨?_, h.drop⟩
    obtain ⟨σ, ⟨a, b, ⟨hp, _⟩, r⟩, hw⟩ := h
    exact hp
  · rintro ⟨hp, σ, hl, hw⟩
    exact ⟨σ, ⟨Hp.emp, σ, ⟨hp, rfl⟩, hl, fun _ => .inl rfl, rfl⟩, hw⟩

theorem Own.st {m : List SP} : Own w (SP.st m :: l) ↔ Own w (m ++ l) := by
  constructor
  · rintro ⟨σ, ⟨a, b, ha, hb, r⟩, hw⟩; exact ⟨σ, Sep.append.2 ⟨a, b, ha, hb, r⟩, hw⟩
  · rintro ⟨σ, h, hw⟩
    obtain ⟨a, b, ha, hb, r⟩ := Sep.append.1 h
    exact ⟨σ, ⟨a, b, ha, hb, r⟩, hw⟩

/-- The first part may be exchanged for another that holds of the same blocks. -/
theorem Own.imp (o : Own w (A :: l)) (h : ∀ σ, A σ → B σ) : Own w (B :: l) := by
  obtain ⟨σ, ⟨a, b, ha, r⟩, hw⟩ := o
  exact ⟨σ, ⟨a, b, h a ha, r⟩, hw⟩

theorem Own.blk {b : Nat} {x : Obj} (o : Own w (SP.blk b x :: l)) : w.heap[b]? = some x := by
  obtain ⟨σ, ⟨a, c, rfl, _, _, rfl⟩, hw⟩ := o
  exact hw b x (by simp [Hp.cup])

theorem Own.lt {b : Nat} {x : Obj} (o : Own w (SP.blk b x :: l)) : b < w.heap.size := (Array.getElem?_eq_some_iff.1 o.blk).1

theorem Own.ne {b c : Nat} {x y : Obj} (o : Own w (SP.blk b x :: SP.blk c y :: l)) : b ≠ c := by
  rintro rfl
  obtain ⟨σ, ⟨a, _, rfl, ⟨d, e, rfl, _, _, rfl⟩, hap, _⟩, _⟩ := o
  rcases hap b with h | h
  · simp at h
  · simp [Hp.cup] at h

theorem Own.old_get {W : World} (o : Own w (SP.old W :: l)) {k : Nat} (hk : k < W.heap.size) : w.heap[k]? = W.heap[k]? := by
  obtain ⟨σ, ⟨a, c, rfl, _, _, rfl⟩, hw⟩ := o
  rw [Array.getElem?_eq_getElem hk]
  exact hw k _ (by simp [Hp.cup, hk])

theorem Own.old_ge {W : World} {b : Nat} {x : Obj} (o : Own w (SP.old W :: SP.blk b x :: l)) : W.heap.size ≤ b := by
  obtain ⟨σ, ⟨a, _, rfl, ⟨d, e, rfl, _, _, rfl⟩, hap, _⟩, _⟩ := o
  rcases hap b with h | h
  · simpa using h
  · simp [Hp.cup] at h

theorem Own.start (W : World) : Own W [SP.old W] :=
  ⟨_, ⟨_, Hp.emp, rfl, rfl, fun _ => .inr rfl, rfl⟩, fun k o h => by
    simp only [Hp.cup, Hp.emp] at h
    cases hh : W.heap[k]? with
    | none => rw [hh] at h; cases h
    | some x => rw [hh] at h; exact h⟩

/-- Another world with the same blocks. -/
theorem Own.same (o : Own w l) (h : w'.heap = w.heap) : Own w' l := let ⟨σ, hs, hw⟩ := o; ⟨σ, hs, fun k x hk => by rw [h]; exact hw k x hk⟩
theorem Own.drew (o : Own w l) : Own w.drew l := o
theorem Own.drewN (o : Own w l) (n : Nat) : Own (w.drewN n) l := o

theorem Own.alloc (o : Own w l) (x : Obj) : Own (w.alloc x) (SP.blk w.heap.size x :: l) := by
  obtain ⟨σ, hs, hw⟩ := o
  have hlt : ∀ k y, σ k = some y → k < w.heap.size := fun k y hk => (Array.getElem?_eq_some_iff.1 (hw k y hk)).1
  refine ⟨_, ⟨_, σ, rfl, hs, fun k => ?_, rfl⟩, fun k y hk => ?_⟩
  · by_cases hk : k = w.heap.size
    · subst hk
      cases hh : σ w.heap.size with
      | none => exact .inr rfl
      | some y => exact absurd (hlt _ _ hh) (Nat.lt_irrefl _)
    · exact .inl (if_neg hk)
  · show (w.heap.push x)[k]? = some y
    rw [Array.getElem?_push]
    by_cases hk' : k = w.heap.size
    · simpa [Hp.cup, hk'] using hk
    · rw [if_neg hk']
      exact hw k y (by simpa [Hp.cup, hk'] using hk)

/-- Block b is exchanged; every other block stays. -/
theorem Own.put {b : Nat} {x y : Obj} (o : Own w (SP.blk b x :: l)) (hb : w'.heap[b]? = some y) (h : ∀ k, k ≠ b → k < w.heap.size → w'.heap[k]? = w.heap[k]?) : Own w' (SP.blk b y :: l) := by
  obtain ⟨σ, ⟨a, c, rfl, hl, hap, rfl⟩, hw⟩ := o
  refine ⟨_, ⟨_, c, rfl, hl, fun k => ?_, rfl⟩, fun k z hk => ?_⟩
  · by_cases hk : k = b
    · subst hk
      rcases hap k with h | h
      · simp at h
      · exact .inr h
    · exact .inl (if_neg hk)
  · by_cases hk' : k = b
    · subst hk'
      rw [hb]; simpa [Hp.cup] using hk
    · have hc : c k = some z := by simpa [Hp.cup, hk'] using hk
      have := hw k z (by simp [Hp.cup, hk', hc])
      rw [h k hk' (Array.getElem?_eq_some_iff.1 this).1]
      exact this

theorem Own.setCell {b : Nat} {T : TypeId} {vs : List Value} (o : Own w (SP.cel b T vs :: l)) (i : Nat) (v : Value) : Own (w.setCell ⟨b, i, none⟩ v) (SP.cel b T (vs.set i v) :: l) := by
  have hb : w.heap[b]? = some (.cells vs.toArray T (0, 0)) := Own.blk o
  refine Own.put o ?_ (fun k hk _ => ?_)
  · simp [World.setCell, Array.getElem?_modify, hb]
  · simp only [World.setCell, Array.getElem?_modify]
    rw [if_neg (by omega)]

theorem Own.setMap {b : Nat} {x : Obj} (o : Own w (SP.blk b x :: l)) (y : Obj) : Own ({ w with heap := w.heap.setIfInBounds b y }) (SP.blk b y :: l) := by
  refine Own.put o ?_ (fun k hk _ => ?_)
  · simp [o.lt]
  · simp only [Array.getElem?_setIfInBounds]
    rw [if_neg (by omega)]

theorem Own.cell {b : Nat} {T : TypeId} {vs : List Value} (o : Own w (SP.cel b T vs :: l)) (i : Nat) {v : Value} (h : vs[i]? = some v := by rfl) : w.cell? ⟨b, i, none⟩ = some v := by
  have hb : w.heap[b]? = some (.cells vs.toArray T (0, 0)) := Own.blk o
  simp only [World.cell?, hb]
  simpa using h

theorem Own.frozen {b : Nat} {T : TypeId} {vs : List Value} (o : Own w (SP.cel b T vs :: l)) : ∀ i, w.frozen? ⟨b, i, none⟩ = false := by
  have hb : w.heap[b]? = some (.cells vs.toArray T (0, 0)) := Own.blk o
  intro i
  simp only [World.frozen?, hb]
  simp

theorem Own.celLt {b : Nat} {T : TypeId} {vs : List Value} (o : Own w (SP.cel b T vs :: l)) : b < w.heap.size := Own.lt o

theorem Own.old_cell {W : World} (o : Own w (SP.old W :: l)) {a : Addr} {v : Value} (h : W.cell? a = some v) : w.cell? a = some v := by
  rw [World.cell?_of_block (o.old_get (World.block_lt_of_cell? W a h))]; exact h

/-- Nothing that was there has turned. -/
theorem Own.below {W : World} (o : Own w (SP.old W :: l)) (c : Calm W w) : Below W.heap.size W w := by
  refine ⟨c.os, c.tape, c.output, ?_, fun k hk => o.old_get hk⟩
  rcases Nat.eq_zero_or_pos W.heap.size with h | h
  · rw [h]; exact Nat.zero_le _
  · have hk : W.heap.size - 1 < W.heap.size := by omega
    have h1 : w.heap[W.heap.size - 1]? = some (W.heap[W.heap.size - 1]'hk) := (o.old_get hk).trans (Array.getElem?_eq_getElem hk)
    have h2 := (Array.getElem?_eq_some_iff.1 h1).1
    omega
end

end Go.Proofs.YtlccalkikjfimaaGreatDoor
