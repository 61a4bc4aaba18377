/- Texts that the law rests on, put together by a program. -/
import Derived.Shelf.SlIterI.Nil
import Derived.Shelf.SortM.Plain
import Derived.Shelf.SortM.SortNone
import Derived.Test.YtjpahfkchhnpoaaGreatProg
import Derived.WalkKit
import Derived.WalkLawsBesides
import Derived.WalkSpells
import Derived.Deep.QuietTactic
import Derived.BigQuiet
import Derived.StillTailTactics
import Derived.Lib.Hide
import Derived.Lib.SlKeysI
import Derived.Lib.MinMax
import Derived.Shelf.Bits.Mul64
/- The contracts of slices.Sorted(maps.Keys(m)) at int keys, at the numbers of this translation: laid by program. -/
namespace Go.Proofs.YtjpahfkchhnpoaaGreat
open Go.Shelf
def Tryz.keys77_ren : Go.Shelf.Ren := ⟨fun | 7 => 77 | 10 => 108 | n => n, fun | 23 => 106 | 26 => 3 | 3 => 94 | 28 => 135 | 0 => 0 | 27 => 134 | 33 => 127 | 4 => 4 | n => n, fun | n => n⟩
theorem Tryz.keys77 : Go.Proofs.SlLaysZI.n7 Tryz.prog Tryz.keys77_ren := {
  mixed := by kernel_rfl
  f7 := ⟨Tryz.f77.name, by decide, Tryz.func77.trans (congrArg some (by kernel_rfl))⟩
  f10 := ⟨Tryz.f108.name, by decide, Tryz.func108.trans (congrArg some (by kernel_rfl))⟩
  t0 := Tryz.underlying0
  a0 := Tryz.isAgg0
  z0 := Tryz.sizeOf0
  v0 := Tryz.zeroValue0
  t4 := Tryz.underlying4
  a4 := Tryz.isAgg4
  z4 := Tryz.sizeOf4
  v4 := Tryz.zeroValue4
  t23 := Tryz.underlying106
  a23 := Tryz.isAgg106
  z23 := Tryz.sizeOf106
  v23 := Tryz.zeroValue106
  t26 := Tryz.underlying3
  a26 := Tryz.isAgg3
  z26 := Tryz.sizeOf3
  v26 := Tryz.zeroValue3
  t27 := Tryz.underlying134
  a27 := Tryz.isAgg134
  z27 := Tryz.sizeOf134
  v27 := Tryz.zeroValue134
  t28 := Tryz.underlying135
  a28 := Tryz.isAgg135
  z28 := Tryz.sizeOf135
  v28 := Tryz.zeroValue135
  t33 := Tryz.underlying127
  a33 := Tryz.isAgg127
  z33 := Tryz.sizeOf127
  v33 := Tryz.zeroValue127 }
def Tryz.keys109_ren : Go.Shelf.Ren := ⟨fun | 7 => 109 | 10 => 127 | n => n, fun | 23 => 110 | 26 => 3 | 3 => 138 | 28 => 135 | 0 => 0 | 27 => 134 | 33 => 127 | 4 => 4 | n => n, fun | n => n⟩
theorem Tryz.keys109 : Go.Proofs.SlLaysZI.n7 Tryz.prog Tryz.keys109_ren := {
  mixed := by kernel_rfl
  f7 := ⟨Tryz.f109.name, by decide, Tryz.func109.trans (congrArg some (by kernel_rfl))⟩
  f10 := ⟨Tryz.f127.name, by decide, Tryz.func127.trans (congrArg some (by kernel_rfl))⟩
  t0 := Tryz.underlying0
  a0 := Tryz.isAgg0
  z0 := Tryz.sizeOf0
  v0 := Tryz.zeroValue0
  t4 := Tryz.underlying4
  a4 := Tryz.isAgg4
  z4 := Tryz.sizeOf4
  v4 := Tryz.zeroValue4
  t23 := Tryz.underlying110
  a23 := Tryz.isAgg110
  z23 := Tryz.sizeOf110
  v23 := Tryz.zeroValue110
  t26 := Tryz.underlying3
  a26 := Tryz.isAgg3
  z26 := Tryz.sizeOf3
  v26 := Tryz.zeroValue3
  t27 := Tryz.underlying134
  a27 := Tryz.isAgg134
  z27 := Tryz.sizeOf134
  v27 := Tryz.zeroValue134
  t28 := Tryz.underlying135
  a28 := Tryz.isAgg135
  z28 := Tryz.sizeOf135
  v28 := Tryz.zeroValue135
  t33 := Tryz.underlying127
  a33 := Tryz.isAgg127
  z33 := Tryz.sizeOf127
  v33 := Tryz.zeroValue127 }
def Tryz.keys136_ren : Go.Shelf.Ren := ⟨fun | 7 => 136 | 10 => 155 | n => n, fun | 23 => 113 | 26 => 3 | 3 => 3 | 28 => 135 | 0 => 0 | 27 => 134 | 33 => 127 | 4 => 4 | n => n, fun | n => n⟩
theorem Tryz.keys136 : Go.Proofs.SlLaysZI.n7 Tryz.prog Tryz.keys136_ren := {
  mixed := by kernel_rfl
  f7 := ⟨Tryz.f136.name, by decide, Tryz.func136.trans (congrArg some (by kernel_rfl))⟩
  f10 := ⟨Tryz.f155.name, by decide, Tryz.func155.trans (congrArg some (by kernel_rfl))⟩
  t0 := Tryz.underlying0
  a0 := Tryz.isAgg0
  z0 := Tryz.sizeOf0
  v0 := Tryz.zeroValue0
  t4 := Tryz.underlying4
  a4 := Tryz.isAgg4
  z4 := Tryz.sizeOf4
  v4 := Tryz.zeroValue4
  t23 := Tryz.underlying113
  a23 := Tryz.isAgg113
  z23 := Tryz.sizeOf113
  v23 := Tryz.zeroValue113
  t26 := Tryz.underlying3
  a26 := Tryz.isAgg3
  z26 := Tryz.sizeOf3
  v26 := Tryz.zeroValue3
  t27 := Tryz.underlying134
  a27 := Tryz.isAgg134
  z27 := Tryz.sizeOf134
  v27 := Tryz.zeroValue134
  t28 := Tryz.underlying135
  a28 := Tryz.isAgg135
  z28 := Tryz.sizeOf135
  v28 := Tryz.zeroValue135
  t33 := Tryz.underlying127
  a33 := Tryz.isAgg127
  z33 := Tryz.sizeOf127
  v33 := Tryz.zeroValue127 }
def Tryz.sorted_ren : Go.Shelf.Ren := ⟨fun | 6 => 76 | 8 => 106 | 9 => 107 | 11 => 124 | 13 => 126 | 12 => 125 | 23 => 151 | 24 => 152 | 14 => 142 | 15 => 143 | 16 => 144 | 17 => 145 | 18 => 146 | 19 => 147 | 20 => 148 | 21 => 149 | 22 => 150 | 25 => 157 | 26 => 158 | 27 => 159 | 28 => 160 | 29 => 161 | 30 => 162 | 31 => 164 | n => n, fun | 26 => 3 | 28 => 135 | 24 => 22 | 0 => 0 | 3 => 3 | 37 => 179 | 48 => 200 | 50 => 158 | 4 => 4 | 40 => 193 | 39 => 192 | 45 => 152 | 5 => 5 | 9 => 9 | 51 => 204 | 55 => 208 | 57 => 212 | 58 => 213 | 33 => 127 | n => n, fun | n => n⟩
theorem Tryz.sorted : Go.Proofs.SlLaysZI.n6 Tryz.prog Tryz.sorted_ren := {
  mixed := by kernel_rfl
  f6 := ⟨Tryz.f76.name, by decide, Tryz.func76.trans (congrArg some (by kernel_rfl))⟩
  f8 := ⟨Tryz.f106.name, by decide, Tryz.func106.trans (congrArg some (by kernel_rfl))⟩
  f11 := ⟨Tryz.f124.name, by decide, Tryz.func124.trans (congrArg some (by kernel_rfl))⟩
  t0 := Tryz.underlying0
  a0 := Tryz.isAgg0
  z0 := Tryz.sizeOf0
  v0 := Tryz.zeroValue0
  t24 := Tryz.underlying22
  a24 := Tryz.isAgg22
  z24 := Tryz.sizeOf22
  v24 := Tryz.zeroValue22
  t26 := Tryz.underlying3
  a26 := Tryz.isAgg3
  z26 := Tryz.sizeOf3
  v26 := Tryz.zeroValue3
  t28 := Tryz.underlying135
  a28 := Tryz.isAgg135
  z28 := Tryz.sizeOf135
  v28 := Tryz.zeroValue135
  i26 := by kernel_rfl }
def Tryz.sort_ren : Go.Shelf.Ren := ⟨fun | 5 => 107 | 8 => 126 | 7 => 125 | 19 => 151 | 20 => 152 | 10 => 142 | 11 => 143 | 12 => 144 | 13 => 145 | 14 => 146 | 15 => 147 | 16 => 148 | 17 => 149 | 18 => 150 | 30 => 157 | 31 => 158 | 32 => 159 | 33 => 160 | 34 => 161 | 35 => 162 | 40 => 164 | n => n, fun | 23 => 22 | 25 => 3 | 3 => 3 | 32 => 179 | 22 => 22 | 0 => 0 | 44 => 200 | 46 => 158 | 4 => 4 | 36 => 193 | 35 => 192 | 41 => 152 | 5 => 5 | 9 => 9 | 53 => 204 | 57 => 208 | 63 => 212 | 64 => 213 | n => n, fun | n => n⟩
theorem Tryz.sort : Go.Proofs.SlLaysM.n5 Tryz.prog Tryz.sort_ren := {
  mixed := by kernel_rfl
  f5 := ⟨Tryz.f107.name, by decide, Tryz.func107.trans (congrArg some (by kernel_rfl))⟩
  f7 := ⟨Tryz.f125.name, by decide, Tryz.func125.trans (congrArg some (by kernel_rfl))⟩
  f8 := Tryz.func126.trans (congrArg some (by kernel_rfl))
  f10 := ⟨Tryz.f142.name, by decide, Tryz.func142.trans (congrArg some (by kernel_rfl))⟩
  f11 := ⟨Tryz.f143.name, by decide, Tryz.func143.trans (congrArg some (by kernel_rfl))⟩
  f12 := ⟨Tryz.f144.name, by decide, Tryz.func144.trans (congrArg some (by kernel_rfl))⟩
  f13 := ⟨Tryz.f145.name, by decide, Tryz.func145.trans (congrArg some (by kernel_rfl))⟩
  f14 := ⟨Tryz.f146.name, by decide, Tryz.func146.trans (congrArg some (by kernel_rfl))⟩
  f15 := ⟨Tryz.f147.name, by decide, Tryz.func147.trans (congrArg some (by kernel_rfl))⟩
  f16 := ⟨Tryz.f148.name, by decide, Tryz.func148.trans (congrArg some (by kernel_rfl))⟩
  f17 := ⟨Tryz.f149.name, by decide, Tryz.func149.trans (congrArg some (by kernel_rfl))⟩
  f18 := ⟨Tryz.f150.name, by decide, Tryz.func150.trans (congrArg some (by kernel_rfl))⟩
  f19 := Tryz.func151.trans (congrArg some (by kernel_rfl))
  f20 := Tryz.func152.trans (congrArg some (by kernel_rfl))
  f30 := ⟨Tryz.f157.name, by decide, Tryz.func157.trans (congrArg some (by kernel_rfl))⟩
  f31 := Tryz.func158.trans (congrArg some (by kernel_rfl))
  f32 := Tryz.func159.trans (congrArg some (by kernel_rfl))
  f33 := ⟨Tryz.f160.name, by decide, Tryz.func160.trans (congrArg some (by kernel_rfl))⟩
  f34 := ⟨Tryz.f161.name, by decide, Tryz.func161.trans (congrArg some (by kernel_rfl))⟩
  f35 := ⟨Tryz.f162.name, by decide, Tryz.func162.trans (congrArg some (by kernel_rfl))⟩
  f40 := ⟨Tryz.f164.name, by decide, Tryz.func164.trans (congrArg some (by kernel_rfl))⟩
  t0 := Tryz.underlying0
  a0 := Tryz.isAgg0
  z0 := Tryz.sizeOf0
  v0 := Tryz.zeroValue0
  t3 := Tryz.underlying3
  a3 := Tryz.isAgg3
  z3 := Tryz.sizeOf3
  v3 := Tryz.zeroValue3
  t4 := Tryz.underlying4
  a4 := Tryz.isAgg4
  z4 := Tryz.sizeOf4
  v4 := Tryz.zeroValue4
  t5 := Tryz.underlying5
  a5 := Tryz.isAgg5
  z5 := Tryz.sizeOf5
  v5 := Tryz.zeroValue5
  t9 := Tryz.underlying9
  a9 := Tryz.isAgg9
  z9 := Tryz.sizeOf9
  v9 := Tryz.zeroValue9
  t22 := Tryz.underlying22
  a22 := Tryz.isAgg22
  z22 := Tryz.sizeOf22
  v22 := Tryz.zeroValue22
  t23 := Tryz.underlying22
  a23 := Tryz.isAgg22
  z23 := Tryz.sizeOf22
  v23 := Tryz.zeroValue22
  t25 := Tryz.underlying3
  a25 := Tryz.isAgg3
  z25 := Tryz.sizeOf3
  v25 := Tryz.zeroValue3
  t32 := Tryz.underlying179
  a32 := Tryz.isAgg179
  z32 := Tryz.sizeOf179
  v32 := Tryz.zeroValue179
  t35 := Tryz.underlying192
  a35 := Tryz.isAgg192
  z35 := Tryz.sizeOf192
  v35 := Tryz.zeroValue192
  t36 := Tryz.underlying193
  a36 := Tryz.isAgg193
  z36 := Tryz.sizeOf193
  v36 := Tryz.zeroValue193
  t41 := Tryz.underlying152
  a41 := Tryz.isAgg152
  z41 := Tryz.sizeOf152
  v41 := Tryz.zeroValue152
  t44 := Tryz.underlying200
  a44 := Tryz.isAgg200
  z44 := Tryz.sizeOf200
  v44 := Tryz.zeroValue200
  t46 := Tryz.underlying158
  a46 := Tryz.isAgg158
  z46 := Tryz.sizeOf158
  v46 := Tryz.zeroValue158
  t53 := Tryz.underlying204
  a53 := Tryz.isAgg204
  z53 := Tryz.sizeOf204
  v53 := Tryz.zeroValue204
  t57 := Tryz.underlying208
  a57 := Tryz.isAgg208
  z57 := Tryz.sizeOf208
  v57 := Tryz.zeroValue208
  t63 := Tryz.underlying212
  a63 := Tryz.isAgg212
  z63 := Tryz.sizeOf212
  v63 := Tryz.zeroValue212
  t64 := Tryz.underlying213
  a64 := Tryz.isAgg213
  z64 := Tryz.sizeOf213
  v64 := Tryz.zeroValue213 }
end Go.Proofs.YtjpahfkchhnpoaaGreat

/- A small separation logic over the blocks of a world: which blocks a value owns, and how stores, new blocks and appends change that. -/
namespace Go.Proofs.YtjpahfkchhnpoaaGreat
open Go.RowKit

/-- A part of a heap. -/
abbrev Hp := Nat → Option Obj
/-- A statement on a part of a heap. -/
def SP := Hp → Prop

def Hp.emp : Hp := fun _ => none
def Hp.cup (a b : Hp) : Hp := fun k => match a k with | some o => some o | none => b k
def Hp.apart (a b : Hp) : Prop := ∀ k, a k = none ∨ b k = none

theorem Hp.cup_comm {a b : Hp} (h : a.apart b) : a.cup b = b.cup a := by
  funext k
  unfold Hp.cup
  rcases h k with h | h <;> rw [h] <;> cases a k <;> cases b k <;> simp_all

theorem Hp.cup_assoc (a b c : Hp) : (a.cup b).cup c = a.cup (b.cup c) := by
  funext k; unfold Hp.cup; cases a k <;> rfl

theorem Hp.cup_none {a b : Hp} {k : Nat} : a.cup b k = none ↔ a k = none ∧ b k = none := by
  unfold Hp.cup; cases a k <;> simp

theorem Hp.apart.symm {a b : Hp} (h : a.apart b) : b.apart a := fun k => (h k).symm

theorem Hp.apart_cup {a b c : Hp} : a.apart (b.cup c) ↔ a.apart b ∧ a.apart c := by
  constructor
  · intro h
    refine ⟨fun k => ?_, fun k => ?_⟩ <;> rcases h k with h | h
    · exact .inl h
    · exact .inr (Hp.cup_none.1 h).1
    · exact .inl h
    · exact .inr (Hp.cup_none.1 h).2
  · intro ⟨h1, h2⟩ k
    rcases h1 k with h | h
    · exact .inl h
    · rcases h2 k with h' | h'
      · exact .inl h'
      · exact .inr (Hp.cup_none.2 ⟨h, h'⟩)

def Sep : List SP → Hp → Prop
  | [], σ => σ = Hp.emp
  | A :: l, σ => ∃ a b, A a ∧ Sep l b ∧ a.apart b ∧ σ = a.cup b

theorem Sep.swap {A B : SP} {l : List SP} {σ : Hp} (h : Sep (A :: B :: l) σ) : Sep (B :: A :: l) σ := by
  obtain ⟨a, x, hA, ⟨b, c, hB, hl, hbc, rfl⟩, hax, rfl⟩ := h
  obtain ⟨hab, hac⟩ := Hp.apart_cup.1 hax
  refine ⟨b, a.cup c, hB, ⟨a, c, hA, hl, hac, rfl⟩, Hp.apart_cup.2 ⟨hab.symm, hbc⟩, ?_⟩
  rw [← Hp.cup_assoc, ← Hp.cup_assoc, Hp.cup_comm hab]

theorem Sep.perm {l l' : List SP} (h : l.Perm l') : ∀ {σ : Hp}, Sep l σ → Sep l' σ := by
  induction h with
  | nil => exact fun h => h
  | cons A _ ih => rintro σ ⟨a, b, hA, hl, hab, rfl⟩; exact ⟨a, b, hA, ih hl, hab, rfl⟩
  | swap A B l => exact fun h => h.swap
  | trans _ _ ih1 ih2 => exact fun h => ih2 (ih1 h)

theorem Sep.append {l m : List SP} : ∀ {σ : Hp}, Sep (l ++ m) σ ↔ ∃ a b, Sep l a ∧ Sep m b ∧ a.apart b ∧ σ = a.cup b := by
  induction l with
  | nil =>
    intro σ
    constructor
    · intro h; exact ⟨Hp.emp, σ, rfl, h, fun _ => .inl rfl, rfl⟩
    · rintro ⟨a, b, rfl, h, _, rfl⟩; exact h
  | cons A l ih =>
    intro σ
    constructor
    · rintro ⟨a, b, hA, hl, hab, rfl⟩
      obtain ⟨c, d, h1, h2, hcd, rfl⟩ := ih.1 hl
      obtain ⟨hac, had⟩ := Hp.apart_cup.1 hab
      refine ⟨a.cup c, d, ⟨a, c, hA, h1, hac, rfl⟩, h2, (Hp.apart_cup.2 ⟨had.symm, hcd.symm⟩).symm, (Hp.cup_assoc _ _ _).symm⟩
    · rintro ⟨x, d, ⟨a, c, hA, h1, hac, rfl⟩, h2, hxd, rfl⟩
      obtain ⟨hda, hdc⟩ := Hp.apart_cup.1 hxd.symm
      exact ⟨a, c.cup d, hA, ih.2 ⟨c, d, h1, h2, hdc.symm, rfl⟩, Hp.apart_cup.2 ⟨hac, hda.symm⟩, Hp.cup_assoc _ _ _⟩

/-- The world owns these parts, each apart from the others (and maybe more blocks besides). -/
def Own (w : World) (l : List SP) : Prop := ∃ σ, Sep l σ ∧ ∀ k o, σ k = some o → w.heap[k]? = some o

/-- What a call may not change beside memory. -/
structure Calm (w w' : World) : Prop where
  os : w'.os = w.os
  tape : w'.tape = w.tape
  output : w'.output = w.output
theorem Calm.refl (w : World) : Calm w w := ⟨rfl, rfl, rfl⟩
theorem Calm.trans {a b c : World} (h : Calm a b) (k : Calm b c) : Calm a c := ⟨k.os.trans h.os, k.tape.trans h.tape, k.output.trans h.output⟩

namespace SP
def ex {α : Type} (f : α → SP) : SP := fun σ => ∃ x, f x σ
def pu (p : Prop) : SP := fun σ => p ∧ σ = Hp.emp
def st (l : List SP) : SP := Sep l
def blk (b : Nat) (o : Obj) : SP := fun σ => σ = fun k => if k = b then some o else none
/-- A row of cells in a block of its own, no cell of it frozen. -/
def cel (b : Nat) (T : TypeId) (vs : List Value) : SP := blk b (.cells vs.toArray T (0, 0))
/-- All blocks that 'W' has, as 'W' has them. -/
def old (W : World) : SP := fun σ => σ = fun k => W.heap[k]?
end SP
open SP

section
variable {w w' : World} {l l' : List SP} {A B : SP}

theorem Own.perm (o : Own w l) (h : l.Perm l') : Own w l' := let ⟨σ, hs, hw⟩ := o; ⟨σ, hs.perm h, hw⟩
theorem Own.swap (o : Own w (A :: B :: l)) : Own w (B :: A :: l) := o.perm (.swap B A l)
theorem perm_up : ∀ (n : Nat) (l : List SP) (A : SP), l[n]? = some A → l.Perm (A :: l.eraseIdx n)
  | 0, [], _, h => by simp at h
  | 0, B :: l, A, h => by simp at h; subst h; exact .refl _
  | n + 1, [], _, h => by simp at h
  | n + 1, B :: l, A, h => by
    have := perm_up n l A (by simpa using h)
    exact (this.cons B).trans (.swap A B _)
/-- Bring part number n to the front. -/
theorem Own.up (n : Nat) (o : Own w l) {A : SP} (h : l[n]? = some A := by rfl) : Own w (A :: l.eraseIdx n) := o.perm (perm_up n l A h)

theorem Own.nil (w : World) : Own w [] := ⟨Hp.emp, rfl, fun _ _ h => by simp [Hp.emp] at h⟩

theorem Own.drop (o : Own w (A :: l)) : Own w l := by
  obtain ⟨σ, ⟨a, b, _, hl, hab, rfl⟩, hw⟩ := o
  refine ⟨b, hl, fun k x hk => hw k x ?_⟩
  rcases hab k with h | h
  · simp [Hp.cup, h, hk]
  · rw [h] at hk; cases hk

theorem Own.ex {α : Type} {f : α → SP} : Own w (SP.ex f :: l) ↔ ∃ x, Own w (f x :: l) := by
  constructor
  · rintro ⟨σ, ⟨a, b, ⟨x, hx⟩, r⟩, hw⟩; exact ⟨x, σ, ⟨a, b, hx, r⟩, hw⟩
  · rintro ⟨x, σ, ⟨a, b, hx, r⟩, hw⟩; exact ⟨σ, ⟨a, b, ⟨x, hx⟩, r⟩, hw⟩

theorem Own.pu {p : Prop} : Own w (SP.pu p :: l) ↔ p ∧ Own w l := by
  constructor
  · intro h
    refine ⟨?_, h.drop⟩
    obtain ⟨σ, ⟨a, b, ⟨hp, _⟩, r⟩, hw⟩ := h
    exact hp
  · rintro ⟨hp, σ, hl, hw⟩
    exact ⟨σ, ⟨Hp.emp, σ, ⟨hp, rfl⟩, hl, fun _ => .inl rfl, rfl⟩, hw⟩

theorem Own.st {m : List SP} : Own w (SP.st m :: l) ↔ Own w (m ++ l) := by
  constructor
  · rintro ⟨σ, ⟨a, b, ha, hb, r⟩, hw⟩; exact ⟨σ, Sep.append.2 ⟨a, b, ha, hb, r⟩, hw⟩
  · rintro ⟨σ, h, hw⟩
    obtain ⟨a, b, ha, hb, r⟩ := Sep.append.1 h
    exact ⟨σ, ⟨a, b, ha, hb, r⟩, hw⟩

/-- The first part may be exchanged for another that holds of the same blocks. -/
theorem Own.imp (o : Own w (A :: l)) (h : ∀ σ, A σ → B σ) : Own w (B :: l) := by
  obtain ⟨σ, ⟨a, b, ha, r⟩, hw⟩ := o
  exact ⟨σ, ⟨a, b, h a ha, r⟩, hw⟩

theorem Own.blk {b : Nat} {x : Obj} (o : Own w (SP.blk b x :: l)) : w.heap[b]? = some x := by
  obtain ⟨σ, ⟨a, c, rfl, _, _, rfl⟩, hw⟩ := o
  exact hw b x (by simp [Hp.cup])

theorem Own.lt {b : Nat} {x : Obj} (o : Own w (SP.blk b x :: l)) : b < w.heap.size := (Array.getElem?_eq_some_iff.1 o.blk).1

theorem Own.ne {b c : Nat} {x y : Obj} (o : Own w (SP.blk b x :: SP.blk c y :: l)) : b ≠ c := by
  rintro rfl
  obtain ⟨σ, ⟨a, _, rfl, ⟨d, e, rfl, _, _, rfl⟩, hap, _⟩, _⟩ := o
  rcases hap b with h | h
  · simp at h
  · simp [Hp.cup] at h

theorem Own.old_get {W : World} (o : Own w (SP.old W :: l)) {k : Nat} (hk : k < W.heap.size) : w.heap[k]? = W.heap[k]? := by
  obtain ⟨σ, ⟨a, c, rfl, _, _, rfl⟩, hw⟩ := o
  rw [Array.getElem?_eq_getElem hk]
  exact hw k _ (by simp [Hp.cup, hk])

theorem Own.old_ge {W : World} {b : Nat} {x : Obj} (o : Own w (SP.old W :: SP.blk b x :: l)) : W.heap.size ≤ b := by
  obtain ⟨σ, ⟨a, _, rfl, ⟨d, e, rfl, _, _, rfl⟩, hap, _⟩, _⟩ := o
  rcases hap b with h | h
  · simpa using h
  · simp [Hp.cup] at h

theorem Own.start (W : World) : Own W [SP.old W] :=
  ⟨_, ⟨_, Hp.emp, rfl, rfl, fun _ => .inr rfl, rfl⟩, fun k o h => by
    simp only [Hp.cup, Hp.emp] at h
    cases hh : W.heap[k]? with
    | none => rw [hh] at h; cases h
    | some x => rw [hh] at h; exact h⟩

/-- Another world with the same blocks. -/
theorem Own.same (o : Own w l) (h : w'.heap = w.heap) : Own w' l := let ⟨σ, hs, hw⟩ := o; ⟨σ, hs, fun k x hk => by rw [h]; exact hw k x hk⟩
theorem Own.drew (o : Own w l) : Own w.drew l := o
theorem Own.drewN (o : Own w l) (n : Nat) : Own (w.drewN n) l := o

theorem Own.alloc (o : Own w l) (x : Obj) : Own (w.alloc x) (SP.blk w.heap.size x :: l) := by
  obtain ⟨σ, hs, hw⟩ := o
  have hlt : ∀ k y, σ k = some y → k < w.heap.size := fun k y hk => (Array.getElem?_eq_some_iff.1 (hw k y hk)).1
  refine ⟨_, ⟨_, σ, rfl, hs, fun k => ?_, rfl⟩, fun k y hk => ?_⟩
  · by_cases hk : k = w.heap.size
    · subst hk
      cases hh : σ w.heap.size with
      | none => exact .inr rfl
      | some y => exact absurd (hlt _ _ hh) (Nat.lt_irrefl _)
    · exact .inl (if_neg hk)
  · show (w.heap.push x)[k]? = some y
    rw [Array.getElem?_push]
    by_cases hk' : k = w.heap.size
    · simpa [Hp.cup, hk'] using hk
    · rw [if_neg hk']
      exact hw k y (by simpa [Hp.cup, hk'] using hk)

/-- Block b is exchanged; every other block stays. -/
theorem Own.put {b : Nat} {x y : Obj} (o : Own w (SP.blk b x :: l)) (hb : w'.heap[b]? = some y) (h : ∀ k, k ≠ b → k < w.heap.size → w'.heap[k]? = w.heap[k]?) : Own w' (SP.blk b y :: l) := by
  obtain ⟨σ, ⟨a, c, rfl, hl, hap, rfl⟩, hw⟩ := o
  refine ⟨_, ⟨_, c, rfl, hl, fun k => ?_, rfl⟩, fun k z hk => ?_⟩
  · by_cases hk : k = b
    · subst hk
      rcases hap k with h | h
      · simp at h
      · exact .inr h
    · exact .inl (if_neg hk)
  · by_cases hk' : k = b
    · subst hk'
      rw [hb]; simpa [Hp.cup] using hk
    · have hc : c k = some z := by simpa [Hp.cup, hk'] using hk
      have := hw k z (by simp [Hp.cup, hk', hc])
      rw [h k hk' (Array.getElem?_eq_some_iff.1 this).1]
      exact this

theorem Own.setCell {b : Nat} {T : TypeId} {vs : List Value} (o : Own w (SP.cel b T vs :: l)) (i : Nat) (v : Value) : Own (w.setCell ⟨b, i, none⟩ v) (SP.cel b T (vs.set i v) :: l) := by
  have hb : w.heap[b]? = some (.cells vs.toArray T (0, 0)) := Own.blk o
  refine Own.put o ?_ (fun k hk _ => ?_)
  · simp [World.setCell, Array.getElem?_modify, hb]
  · simp only [World.setCell, Array.getElem?_modify]
    rw [if_neg (by omega)]

theorem Own.setMap {b : Nat} {x : Obj} (o : Own w (SP.blk b x :: l)) (y : Obj) : Own ({ w with heap := w.heap.setIfInBounds b y }) (SP.blk b y :: l) := by
  refine Own.put o ?_ (fun k hk _ => ?_)
  · simp [o.lt]
  · simp only [Array.getElem?_setIfInBounds]
    rw [if_neg (by omega)]

theorem Own.cell {b : Nat} {T : TypeId} {vs : List Value} (o : Own w (SP.cel b T vs :: l)) (i : Nat) {v : Value} (h : vs[i]? = some v := by rfl) : w.cell? ⟨b, i, none⟩ = some v := by
  have hb : w.heap[b]? = some (.cells vs.toArray T (0, 0)) := Own.blk o
  simp only [World.cell?, hb]
  simpa using h

theorem Own.frozen {b : Nat} {T : TypeId} {vs : List Value} (o : Own w (SP.cel b T vs :: l)) : ∀ i, w.frozen? ⟨b, i, none⟩ = false := by
  have hb : w.heap[b]? = some (.cells vs.toArray T (0, 0)) := Own.blk o
  intro i
  simp only [World.frozen?, hb]
  simp

theorem Own.celLt {b : Nat} {T : TypeId} {vs : List Value} (o : Own w (SP.cel b T vs :: l)) : b < w.heap.size := Own.lt o

theorem Own.old_cell {W : World} (o : Own w (SP.old W :: l)) {a : Addr} {v : Value} (h : W.cell? a = some v) : w.cell? a = some v := by
  rw [World.cell?_of_block (o.old_get (World.block_lt_of_cell? W a h))]; exact h

/-- Nothing that was there has turned. -/
theorem Own.below {W : World} (o : Own w (SP.old W :: l)) (c : Calm W w) : Below W.heap.size W w := by
  refine ⟨c.os, c.tape, c.output, ?_, fun k hk => o.old_get hk⟩
  rcases Nat.eq_zero_or_pos W.heap.size with h | h
  · rw [h]; exact Nat.zero_le _
  · have hk : W.heap.size - 1 < W.heap.size := by omega
    have h1 : w.heap[W.heap.size - 1]? = some (W.heap[W.heap.size - 1]'hk) := (o.old_get hk).trans (Array.getElem?_eq_getElem hk)
    have h2 := (Array.getElem?_eq_some_iff.1 h1).1
    omega
end

end Go.Proofs.YtjpahfkchhnpoaaGreat

/- Slices and maps in the separation logic: append, lookup, update, delete. -/
namespace Go.Proofs.YtjpahfkchhnpoaaGreat
open Go.RowKit
open SP

/-- What a walk needs to know of a slice type t with elements of type e. -/
structure ElemT (P : Program) (t e : TypeId) (size bytes : Nat) : Prop where
  und : P.underlying t = some (.slice e)
  info : ∃ i z, P.info? e = some i ∧ i.zero = some z ∧ i.size = size ∧ i.bytes = bytes ∧ z.cells.size = size
  pos : 0 < size

theorem ElemT.mk' {P : Program} {t e : TypeId} {z : Value} {size bytes : Nat} (hu : P.underlying t = some (.slice e)) (h : (P.info? e).map (fun i => (i.zero, i.size, i.bytes)) = some (some z, size, bytes))
    (hz : z.cells.size = size) (hp : 0 < size) : ElemT P t e size bytes :=
  ⟨hu, let ⟨i, h1, h2, h3, h4⟩ := info_parts h; ⟨i, z, h1, h2, h3, h4, hz⟩, hp⟩

/-- The slice '.slice a n cap' has the elements whose cells are xs, and owns its array. -/
def SP.slc (e : TypeId) (size : Nat) (a : Option Addr) (n cap : Nat) (xs : List Value) : SP := ex fun (p : Option (Nat × List Value)) =>
  match p with
  | none => pu (a = none ∧ n = 0 ∧ cap = 0 ∧ xs = [])
  | some (b, sp) => st [pu (a = some ⟨b, 0, none⟩ ∧ n ≤ cap ∧ cap ≤ maxLen ∧ xs.length = n * size ∧ sp.length = (cap - n) * size), cel b e (xs ++ sp)]

section
variable {w : World} {l : List SP} {P : Program} {t e : TypeId} {size bytes : Nat}

theorem Own.slc {a : Option Addr} {n cap : Nat} {xs : List Value} : Own w (SP.slc e size a n cap xs :: l) ↔
    (a = none ∧ n = 0 ∧ cap = 0 ∧ xs = [] ∧ Own w l) ∨
    ∃ b sp, a = some ⟨b, 0, none⟩ ∧ n ≤ cap ∧ cap ≤ maxLen ∧ xs.length = n * size ∧ sp.length = (cap - n) * size ∧ Own w (SP.cel b e (xs ++ sp) :: l) := by
  constructor
  · intro o
    obtain ⟨p, o⟩ := Own.ex.1 o
    cases p with
    | none => obtain ⟨⟨h1, h2, h3, h4⟩, o⟩ := Own.pu.1 o; exact .inl ⟨h1, h2, h3, h4, o⟩
    | some p => obtain ⟨⟨h1, h2, h3, h4, h5⟩, o⟩ := Own.pu.1 (Own.st.1 o); exact .inr ⟨p.1, p.2, h1, h2, h3, h4, h5, o⟩
  · rintro (⟨h1, h2, h3, h4, o⟩ | ⟨b, sp, h1, h2, h3, h4, h5, o⟩)
    · exact Own.ex.2 ⟨none, Own.pu.2 ⟨⟨h1, h2, h3, h4⟩, o⟩⟩
    · exact Own.ex.2 ⟨some (b, sp), Own.st.2 (Own.pu.2 ⟨⟨h1, h2, h3, h4, h5⟩, o⟩)⟩

theorem Own.slc_len {a : Option Addr} {n cap : Nat} {xs : List Value} (o : Own w (SP.slc e size a n cap xs :: l)) : xs.length = n * size ∧ n ≤ cap ∧ cap ≤ maxLen := by
  rcases Own.slc.1 o with ⟨_, rfl, rfl, rfl, _⟩ | ⟨_, _, _, h1, h2, h3, _⟩
  · simp
  · exact ⟨h3, h1, h2⟩

theorem Own.slc_nil (o : Own w l) : Own w (SP.slc e size none 0 0 [] :: l) := Own.slc.2 (.inl ⟨rfl, rfl, rfl, rfl, o⟩)

/-- The cells of a slice's elements. -/
theorem Own.slc_cell {a : Option Addr} {n cap : Nat} {xs : List Value} (o : Own w (SP.slc e size a n cap xs :: l)) (hn : 0 < n) :
    ∃ b, a = some ⟨b, 0, none⟩ ∧ (∀ (j : Nat) u, xs[j]? = some u → w.cell? ⟨b, j, none⟩ = some u) ∧ (∀ j, w.frozen? ⟨b, j, none⟩ = false) ∧ b < w.heap.size := by
  rcases Own.slc.1 o with ⟨_, h, _⟩ | ⟨b, sp, h1, _, _, _, _, o⟩
  · omega
  · refine ⟨b, h1, fun j u hu => Own.cell o j ?_, Own.frozen o, Own.celLt o⟩
    rw [List.getElem?_append_left (List.getElem?_eq_some_iff.1 hu).1]; exact hu

/-- One cell of an element is stored anew. -/
theorem Own.slc_set {b : Nat} {n cap : Nat} {xs : List Value} (o : Own w (SP.slc e size (some ⟨b, 0, none⟩) n cap xs :: l)) (j : Nat) (v : Value) (hj : j < xs.length) :
    Own (w.setCell ⟨b, j, none⟩ v) (SP.slc e size (some ⟨b, 0, none⟩) n cap (xs.set j v) :: l) := by
  rcases Own.slc.1 o with ⟨h, _⟩ | ⟨b', sp, h1, h2, h3, h4, h5, o⟩
  · cases h
  · simp only [Option.some.injEq, Addr.mk.injEq] at h1
    obtain ⟨rfl, _, _⟩ := h1
    refine Own.slc.2 (.inr ⟨b, sp, rfl, h2, h3, by simpa using h4, h5, ?_⟩)
    have := o.setCell j v
    rwa [List.set_append_left _ _ hj] at this

theorem Own.setRow {g : Nat} {T : TypeId} {vs : List Value} (o : Own w (SP.cel g T vs :: l)) (us : List Value) : Own (w.setRow g us.toArray) (SP.cel g T us :: l) :=
  Own.put o (setRow_heap w g _ _ T _ (Own.blk o)) (fun k hk _ => setRow_other w g k _ hk)

theorem run_append_slc (ty : TypeId) (E : ElemT P t e size bytes) {a : Option Addr} {n cap : Nat} {xs : List Value} (o : Own w (SP.slc e size a n cap xs :: l))
    (ad : Addr) (m c : Nat) (news : List Value) (hl : news.length = m * size) (hnews : ∀ j u, news[j]? = some u → w.cell? (ad.add j) = some u) (h1 : ∀ u ∈ news, u.oneCell' = true)
    (h63 : n + m ≤ maxLen) (hbytes : (n + m) * bytes ≤ 140737488355328) :
    ∃ a' cap' w', (Builtin.append_ #[t, t] ty #[.slice a n cap, .slice (some ad) m c]).run P w = .ok (.slice a' (n + m) cap') w' ∧ Own w' (SP.slc e size a' (n + m) cap' (xs ++ news) :: l) ∧ Calm w w' := by
  obtain ⟨ht, ⟨i, z, hi, hz, rfl, rfl, hzs⟩, hsz⟩ := E
  have hsmall : n + m ≤ 9223372036854775807 := by simp only [maxLen] at h63; omega
  have grown : ∀ (old : Nat) (o' : Own w l), old < n + m → xs.length = n * i.size →
      Own (w.drew.alloc (.cells (xs.toArray ++ news.toArray ++ Builtin.zeroCells z.cells (grownCap w (n + m) old e - (n + m))) e))
        (SP.slc e i.size (some ⟨w.heap.size, 0, none⟩) (n + m) (grownCap w (n + m) old e) (xs ++ news) :: l) := by
    intro old o' ho hx
    refine Own.slc.2 (.inr ⟨w.heap.size, (Builtin.zeroCells z.cells (grownCap w (n + m) old e - (n + m))).toList, rfl, grownCap_ge _ _ _ _, grownCap_le_maxLen _ _ _ _ h63, ?_, ?_, ?_⟩)
    · rw [List.length_append, hx, hl, Nat.add_mul]
    · simp [size_zeroCells, hzs]
    · have := Own.alloc (w := w.drew) o'.drew (.cells (xs.toArray ++ news.toArray ++ Builtin.zeroCells z.cells (grownCap w (n + m) old e - (n + m))) e)
      unfold SP.cel
      have e1 : (xs ++ news ++ (Builtin.zeroCells z.cells (grownCap w (n + m) old e - (n + m))).toList).toArray = xs.toArray ++ news.toArray ++ Builtin.zeroCells z.cells (grownCap w (n + m) old e - (n + m)) := by simp
      rw [e1]
      exact this
  rcases Own.slc.1 o with ⟨rfl, rfl, rfl, rfl, o1⟩ | ⟨g, sp, rfl, hnc, hcm, hxl, hsl, o1⟩
  · by_cases hm : m = 0
    · subst hm
      have hn : news = [] := List.eq_nil_of_length_eq_zero (by simpa using hl)
      subst hn
      refine ⟨none, 0, w, ?_, by simpa using o, Calm.refl w⟩
      simp [Builtin.append_, run_underlying ht, sizeOf, typeInfo, hi, Builtin.lenOf, Builtin.firstCells, loadCells, loadCellsFrom]
    · have hr := run_append_nil (P := P) w t ty e i z ht hi hz ad m c news hl hnews (by omega) (by omega) (by have hb := hbytes; simp only [Nat.zero_add] at hb; omega)
      have hgr := grown 0 o1 (by omega) (by simp)
      simp only [Nat.zero_add, List.nil_append, Array.empty_append] at hgr ⊢
      exact ⟨_, _, _, hr, hgr, ⟨rfl, rfl, rfl⟩⟩
  · have hg : w.heap[g]? = some (.cells (xs ++ sp).toArray e (0, 0)) := Own.blk o1
    by_cases hroom : n + m ≤ cap
    · have hmn : m * i.size ≤ (cap - n) * i.size := Nat.mul_le_mul_right _ (by omega)
      have hfit : n * i.size + news.length ≤ (xs ++ sp).toArray.size := by simp only [List.size_toArray, List.length_append, hxl, hsl, hl]; omega
      have hr := run_append_room (P := P) w t ty e i ht hi g n cap (xs ++ sp).toArray hg ad m c news hl hnews h1 hroom hfit
      refine ⟨_, _, _, hr, ?_, ⟨rfl, rfl, rfl⟩⟩
      have e1 : (xs ++ sp).toArray.toList.take (n * i.size) ++ news ++ (xs ++ sp).toArray.toList.drop (n * i.size + news.length) = (xs ++ news) ++ sp.drop news.length := by
        simp only [← hxl, List.take_left]
        rw [← List.drop_drop, List.drop_left]
      rw [e1]
      refine Own.slc.2 (.inr ⟨g, sp.drop news.length, rfl, hroom, hcm, ?_, ?_, o1.setRow _⟩)
      · rw [List.length_append, hxl, hl, Nat.add_mul]
      · rw [List.length_drop, hsl, hl, ← Nat.sub_mul]; congr 1; omega
    · have holds : ∀ j u, xs[j]? = some u → w.cell? ((⟨g, 0, none⟩ : Addr).add j) = some u := by
        intro j u hu
        have hadd : (⟨g, 0, none⟩ : Addr).add j = ⟨g, j, none⟩ := by unfold Addr.add; split <;> simp_all
        rw [hadd]
        refine Own.cell o1 j ?_
        rw [List.getElem?_append_left (List.getElem?_eq_some_iff.1 hu).1]; exact hu
      have hr := run_append_grow (P := P) w t ty e i z ht hi hz ⟨g, 0, none⟩ n cap xs hxl holds ad m c news hl hnews (by omega) (by omega) (growslice_fits (by omega) hbytes)
      exact ⟨_, _, _, hr, grown cap o1.drop (by omega) hxl, ⟨rfl, rfl, rfl⟩⟩

/-- The cells of a row, as an append's law asks for them. -/
theorem Own.news {g : Nat} {T : TypeId} {vs : List Value} (o : Own w (SP.cel g T vs :: l)) : ∀ j u, vs[j]? = some u → w.cell? ((⟨g, 0, none⟩ : Addr).add j) = some u := by
  intro j u hu
  have hadd : (⟨g, 0, none⟩ : Addr).add j = ⟨g, j, none⟩ := by unfold Addr.add; split <;> simp_all
  rw [hadd]
  exact Own.cell o j hu

/-- The operation 'append(s, x...)' where x has an array. -/
theorem wpList_append_slc {ops : Array Oper} {rest : List Oper} {op : Oper} {A : Act} {Q : Exit → Act → World → Prop} (hgd : op.guard = none) (s x : Operand)
    (hop : op.op = .call { callee := .builtin .append, args := #[s, x], argTypes := #[t, t] })
    (E : ElemT P t e size bytes) {a : Option Addr} {n cap : Nat} {xs : List Value} (hs : A.eval s = .slice a n cap) (o : Own w (SP.slc e size a n cap xs :: l))
    (ad : Addr) (m c : Nat) (news : List Value) (hx : A.eval x = .slice (some ad) m c) (hl : news.length = m * size) (hnews : ∀ j u, news[j]? = some u → w.cell? (ad.add j) = some u) (h1 : ∀ u ∈ news, u.oneCell' = true)
    (h63 : n + m ≤ maxLen) (hbytes : (n + m) * bytes ≤ 140737488355328)
    (h : ∀ a' cap' w', Own w' (SP.slc e size a' (n + m) cap' (xs ++ news) :: l) → Calm w w' → wpList P ops Q rest (A.put op.dst (.slice a' (n + m) cap')) w') : wpList P ops Q (op :: rest) A w := by
  refine wpList_plain hgd fun K hK => ?_
  obtain ⟨a', cap', w', hr, h2, h3⟩ := run_append_slc op.type E o ad m c news hl hnews h1 h63 hbytes
  unfold Oper.wp execOp
  simp only [hop, resolve, invoke, builtin, Sem.run_bind, Sem.run_pure, Result.andThen_ok, List.map_toArray, List.map_cons, List.map_nil, hs, hx, hr]
  exact hK _ _ (h a' cap' w' h2 h3)
end

/-! ### Maps whose keys are ints -/
section
variable {α : Type}
def mget : List (Int × α) → Int → Option α
  | [], _ => none
  | (k', v) :: m, k => if k = k' then some v else mget m k
def mput : List (Int × α) → Int → α → List (Int × α)
  | [], k, v => [(k, v)]
  | (k', v') :: m, k, v => if k = k' then (k, v) :: m else (k', v') :: mput m k v
def mdel : List (Int × α) → Int → List (Int × α)
  | [], _ => []
  | (k', v') :: m, k => if k = k' then m else (k', v') :: mdel m k
def midx : List (Int × α) → Int → Option Nat
  | [], _ => none
  | (k', _) :: m, k => if k = k' then some 0 else (midx m k).map (· + 1)

/-- Block b is a map that holds these pairs, in the order of their insertion. -/
def SP.mpI (f : α → Value) (b : Nat) (m : List (Int × α)) : SP := ex fun (p : Array MapEntry × Nat) =>
  st [pu (p.1.toList.map (fun e => (e.key, e.val)) = m.map (fun x => (Value.int .i64 x.1, f x.2)) ∧ p.1.toList.Pairwise (fun x y => x.born < y.born) ∧ ∀ e ∈ p.1.toList, e.born < p.2), blk b (.map p.1 p.2)]

variable {w : World} {l : List SP} {P : Program} {t kt et : TypeId} {f : α → Value} {b : Nat} {m : List (Int × α)}

theorem Own.mpI : Own w (SP.mpI f b m :: l) ↔ ∃ es clock, es.toList.map (fun e : MapEntry => (e.key, e.val)) = m.map (fun x => (Value.int .i64 x.1, f x.2)) ∧
    es.toList.Pairwise (fun x y => x.born < y.born) ∧ (∀ e ∈ es.toList, e.born < clock) ∧ Own w (SP.blk b (.map es clock) :: l) := by
  constructor
  · intro o
    obtain ⟨⟨es, clock⟩, o⟩ := Own.ex.1 o
    obtain ⟨⟨h1, h2, h3⟩, o⟩ := Own.pu.1 (Own.st.1 o)
    exact ⟨es, clock, h1, h2, h3, o⟩
  · rintro ⟨es, clock, h1, h2, h3, o⟩
    exact Own.ex.2 ⟨(es, clock), Own.st.2 (Own.pu.2 ⟨⟨h1, h2, h3⟩, o⟩)⟩

theorem findNow_int (k : Int) : ∀ (es : List MapEntry) (m : List (Int × α)) (n : Nat), es.map (fun e => (e.key, e.val)) = m.map (fun x => (Value.int .i64 x.1, f x.2)) →
    Instr.findNow (.int .i64) (.int .i64 k) es n = some (match midx m k, mget m k with | some i, some v => some (n + i, f v) | _, _ => none)
  | [], [], n, _ => rfl
  | [], _ :: _, _, h => by simp at h
  | _ :: _, [], _, h => by simp at h
  | e :: es, (k', v) :: m, n, h => by
    simp only [List.map_cons, List.cons.injEq, Prod.mk.injEq] at h
    obtain ⟨⟨h1, h2⟩, h3⟩ := h
    unfold Instr.findNow
    rw [h1]
    by_cases hk : k = k'
    · subst hk
      simp [Instr.sameNow, midx, mget, h2]
    · have hb : (k == k') = false := by simpa using hk
      have ih := findNow_int k es m (n + 1) h3
      simp only [Instr.sameNow, if_true, hb, midx, mget, if_neg hk]
      rw [ih]
      cases midx m k <;> cases mget m k <;> simp [Nat.add_assoc, Nat.add_comm 1]

theorem midx_mget (m : List (Int × α)) (k : Int) : (midx m k).isSome = (mget m k).isSome := by
  induction m with
  | nil => rfl
  | cons x m ih =>
    obtain ⟨k', v⟩ := x
    unfold midx mget
    split
    · rfl
    · simpa using ih

theorem run_checkKey_int {P : Program} {kt : TypeId} (hk : P.underlying kt = some (.int .i64)) (em : Bool) (n : Nat) (k : Int) (w : World) : (Instr.checkKey em (n + 1) kt (.int .i64 k)).run P w = .ok () w := by
  simp [Instr.checkKey, run_underlying hk]

theorem run_findKey_int {P : Program} {kt : TypeId} (hk : P.underlying kt = some (.int .i64)) {es : List MapEntry} (h : es.map (fun e => (e.key, e.val)) = m.map (fun x => (Value.int .i64 x.1, f x.2))) (k : Int) (w : World) :
    (Instr.findKey kt (.int .i64 k) es).run P w = .ok (match midx m k, mget m k with | some i, some v => some (i, f v) | _, _ => none) w := by
  have := findNow_int (f := f) k es m 0 h
  simp only [Nat.zero_add] at this
  simp [Instr.findKey, run_underlying hk, this]

theorem run_lookup_mpI (ht : P.underlying t = some (.map kt et)) (hk : P.underlying kt = some (.int .i64)) {z : Value} (hz : ∀ w, (zeroValue et).run P w = .ok z w)
    (o : Own w (SP.mpI f b m :: l)) (k : Int) (ok : Bool) :
    (Instr.lookup t (.map (some b)) (.int .i64 k) ok).run P w = .ok (if ok then .tuple #[((mget m k).map f).getD z, .bool (mget m k).isSome] else ((mget m k).map f).getD z) w := by
  obtain ⟨es, clock, h1, _, _, o⟩ := Own.mpI.1 o
  have hb := o.blk
  have hm := midx_mget m k
  have hf := run_findKey_int (P := P) hk h1 k w
  cases hmi : midx m k <;> cases hmg : mget m k <;> simp [hmi, hmg] at hm hf <;>
    cases ok <;> simp [Instr.lookup, run_underlying ht, getObj, Sem.run, hb, run_checkKey_int hk, hf, hz w]

theorem mput_lists (k : Int) (v : α) : ∀ (es : List MapEntry) (m : List (Int × α)) (i : Nat), es.map (fun e => (e.key, e.val)) = m.map (fun x => (Value.int .i64 x.1, f x.2)) → midx m k = some i →
    (es.modify i fun e => { e with key := .int .i64 k, val := f v }).map (fun e => (e.key, e.val)) = (mput m k v).map (fun x => (Value.int .i64 x.1, f x.2)) ∧ (∃ e, es[i]? = some e ∧ e.key = .int .i64 k)
  | [], [], i, _, hi => by simp [midx] at hi
  | [], _ :: _, _, h, _ => by simp at h
  | _ :: _, [], _, h, _ => by simp at h
  | e :: es, (k', v') :: m, i, h, hi => by
    simp only [List.map_cons, List.cons.injEq, Prod.mk.injEq] at h
    obtain ⟨⟨h1, h2⟩, h3⟩ := h
    unfold midx at hi
    by_cases hk : k = k'
    · subst hk
      simp at hi
      subst hi
      simp [mput, h3, h1]
    · simp only [if_neg hk, Option.map_eq_some_iff] at hi
      obtain ⟨j, hj, rfl⟩ := hi
      obtain ⟨h4, h5⟩ := mput_lists k v es m j h3 hj
      simp only [mput, if_neg hk]
      refine ⟨?_, by simpa using h5⟩
      simp [h1, h2, h4]

theorem mput_new (k : Int) (v : α) : ∀ (m : List (Int × α)), midx m k = none → mput m k v = m ++ [(k, v)]
  | [], _ => rfl
  | (k', v') :: m, h => by
    unfold midx at h
    by_cases hk : k = k'
    · simp [hk] at h
    · simp only [if_neg hk, Option.map_eq_none_iff] at h
      simp [mput, if_neg hk, mput_new k v m h]

theorem pairwise_modify {es : List MapEntry} (g : MapEntry → MapEntry) (hg : ∀ e, (g e).born = e.born) (i : Nat) (h : es.Pairwise (fun x y => x.born < y.born)) : (es.modify i g).Pairwise (fun x y => x.born < y.born) := by
  have e1 : ∀ l : List MapEntry, l.Pairwise (fun x y => x.born < y.born) ↔ (l.map (·.born)).Pairwise (· < ·) := fun l => by rw [List.pairwise_map]
  have e2 : (es.modify i g).map (·.born) = es.map (·.born) := by
    apply List.ext_getElem?
    intro j
    simp only [List.getElem?_map, List.getElem?_modify]
    cases es[j]? <;> simp
    split <;> simp [hg]
  rw [e1, e2, ← e1]; exact h

theorem mem_modify_born {es : List MapEntry} (g : MapEntry → MapEntry) (hg : ∀ e, (g e).born = e.born) (i : Nat) {c : Nat} (h : ∀ e ∈ es, e.born < c) : ∀ e ∈ es.modify i g, e.born < c := by
  intro e he
  obtain ⟨j, hj⟩ := List.getElem?_of_mem he
  rw [List.getElem?_modify] at hj
  cases hx : es[j]? with
  | none => rw [hx] at hj; cases hj
  | some x =>
    rw [hx] at hj
    have hxm := h x (List.mem_of_getElem? hx)
    simp at hj
    split at hj <;> subst hj
    · rw [hg]; exact hxm
    · exact hxm

theorem run_mapUpdate_mpI (ht : P.underlying t = some (.map kt et)) (hk : P.underlying kt = some (.int .i64)) (o : Own w (SP.mpI f b m :: l)) (k : Int) (v : α) :
    ∃ w', (Instr.mapUpdate t (.map (some b)) (.int .i64 k) (f v)).run P w = .ok () w' ∧ Own w' (SP.mpI f b (mput m k v) :: l) ∧ Calm w w' := by
  obtain ⟨es, clock, h1, h2, h3, o⟩ := Own.mpI.1 o
  have hb := o.blk
  have hm := midx_mget m k
  have hf := run_findKey_int (P := P) hk h1 k w
  cases hmi : midx m k with
  | none =>
    have hmg : mget m k = none := by rw [hmi] at hm; simpa using hm.symm
    simp [hmi] at hf
    refine ⟨_, ?_, Own.mpI.2 ⟨es.push { key := .int .i64 k, val := f v, born := clock }, clock + 1, ?_, ?_, ?_, o.setMap _⟩, ⟨rfl, rfl, rfl⟩⟩
    · simp [Instr.mapUpdate, run_underlying ht, getObj, setObj, Sem.run, hb, run_checkKey_int hk, hf]
    · rw [mput_new k v m hmi]; simp [h1]
    · simp only [Array.toList_push, List.pairwise_append]
      exact ⟨h2, by simp, fun a ha c hc => by simp at hc; subst hc; exact h3 a ha⟩
    · intro e he
      simp at he
      rcases he with he | rfl
      · have := h3 e (by simpa using he); omega
      · simp
  | some i =>
    obtain ⟨x, hmg⟩ : ∃ x, mget m k = some x := by rw [hmi] at hm; exact Option.isSome_iff_exists.1 (by simpa using hm.symm)
    obtain ⟨h4, e0, h5, h6⟩ := mput_lists (f := f) k v es.toList m i h1 hmi
    have h5' : es[i]? = some e0 := by simpa using h5
    simp [hmi, hmg] at hf
    refine ⟨_, ?_, Own.mpI.2 ⟨es.modify i fun e => { e with key := .int .i64 k, val := f v }, clock, ?_, ?_, ?_, o.setMap _⟩, ⟨rfl, rfl, rfl⟩⟩
    · simp [Instr.mapUpdate, run_underlying ht, getObj, setObj, Sem.run, hb, run_checkKey_int hk, hf, h5', h6, Instr.keyThatStays, Instr.sameBits]
    · rw [Array.toList_modify]; exact h4
    · rw [Array.toList_modify]; exact pairwise_modify (fun e => { e with key := .int .i64 k, val := f v }) (fun _ => rfl) i h2
    · rw [Array.toList_modify]; exact mem_modify_born (fun e => { e with key := .int .i64 k, val := f v }) (fun _ => rfl) i h3

theorem mdel_lists (k : Int) : ∀ (es : List MapEntry) (m : List (Int × α)), es.map (fun e => (e.key, e.val)) = m.map (fun x => (Value.int .i64 x.1, f x.2)) →
    (∀ i, midx m k = some i → (es.eraseIdx i).map (fun e => (e.key, e.val)) = (mdel m k).map (fun x => (Value.int .i64 x.1, f x.2))) ∧ (midx m k = none → mdel m k = m)
  | [], [], _ => by simp [midx, mdel]
  | [], _ :: _, h => by simp at h
  | _ :: _, [], h => by simp at h
  | e :: es, (k', v') :: m, h => by
    simp only [List.map_cons, List.cons.injEq, Prod.mk.injEq] at h
    obtain ⟨⟨h1, h2⟩, h3⟩ := h
    obtain ⟨h4, h5⟩ := mdel_lists k es m h3
    by_cases hk : k = k'
    · subst hk
      simp [midx, mdel, h3]
    · simp only [midx, mdel, if_neg hk]
      refine ⟨fun i hi => ?_, fun hi => ?_⟩
      · rw [Option.map_eq_some_iff] at hi
        obtain ⟨j, hj, rfl⟩ := hi
        simp [h1, h2, h4 j hj]
      · rw [Option.map_eq_none_iff] at hi
        rw [h5 hi]

theorem run_delete_mpI (ty : TypeId) (ht : P.underlying t = some (.map kt et)) (hk : P.underlying kt = some (.int .i64)) (o : Own w (SP.mpI f b m :: l)) (k : Int) (ts : Array TypeId) (hts : ts[0]? = some t) :
    ∃ w', (Builtin.delete_ ts ty #[.map (some b), .int .i64 k]).run P w = .ok (.tuple #[]) w' ∧ Own w' (SP.mpI f b (mdel m k) :: l) ∧ Calm w w' := by
  obtain ⟨es, clock, h1, h2, h3, o⟩ := Own.mpI.1 o
  have hb := o.blk
  have hm := midx_mget m k
  have hf := run_findKey_int (P := P) hk h1 k w
  obtain ⟨h4, h5⟩ := mdel_lists (f := f) k es.toList m h1
  cases hmi : midx m k with
  | none =>
    simp [hmi] at hf
    refine ⟨_, ?_, Own.mpI.2 ⟨es, clock, ?_, h2, h3, o.setMap _⟩, ⟨rfl, rfl, rfl⟩⟩
    · simp [Builtin.delete_, hts, run_underlying ht, getObj, setObj, Sem.run, hb, run_checkKey_int hk, hf]
    · rw [h5 hmi]; exact h1
  | some i =>
    obtain ⟨x, hmg⟩ : ∃ x, mget m k = some x := by rw [hmi] at hm; exact Option.isSome_iff_exists.1 (by simpa using hm.symm)
    simp [hmi, hmg] at hf
    have e1 : (es.eraseIdxIfInBounds i).toList = es.toList.eraseIdx i := by simp
    refine ⟨_, ?_, Own.mpI.2 ⟨es.eraseIdxIfInBounds i, clock, ?_, ?_, ?_, o.setMap _⟩, ⟨rfl, rfl, rfl⟩⟩
    · simp [Builtin.delete_, hts, run_underlying ht, getObj, setObj, Sem.run, hb, run_checkKey_int hk, hf]
    · rw [e1]; exact h4 i hmi
    · rw [e1]; exact h2.sublist (List.eraseIdx_sublist _ _)
    · rw [e1]; exact fun e he => h3 e ((List.eraseIdx_sublist _ _).subset he)

theorem Own.mpI_made (o : Own w l) : Own (w.alloc (.map #[] 0)) (SP.mpI f w.heap.size ([] : List (Int × α)) :: l) :=
  Own.mpI.2 ⟨#[], 0, rfl, by simp, by simp, o.alloc _⟩

theorem wpList_mapUpdate_mpI {ops : Array Oper} {rest : List Oper} {op : Oper} {A : Act} {Q : Exit → Act → World → Prop} (hgd : op.guard = none) (x y v : Operand) (hop : op.op = Op.mapUpdate t x y v)
    (ht : P.underlying t = some (.map kt et)) (hk : P.underlying kt = some (.int .i64)) (o : Own w (SP.mpI f b m :: l)) (k : Int) (u : α)
    (hx : A.eval x = .map (some b)) (hy : A.eval y = .int .i64 k) (hv : A.eval v = f u)
    (h : ∀ w', Own w' (SP.mpI f b (mput m k u) :: l) → Calm w w' → wpList P ops Q rest (A.put op.dst undef) w') : wpList P ops Q (op :: rest) A w := by
  refine wpList_plain hgd fun K hK => ?_
  obtain ⟨w', hr, h2, h3⟩ := run_mapUpdate_mpI ht hk o k u
  unfold Oper.wp
  simp [execOp, hop, hx, hy, hv, hr, Result.andThen]
  exact hK _ _ (h w' h2 h3)

theorem wpList_delete_mpI {ops : Array Oper} {rest : List Oper} {op : Oper} {A : Act} {Q : Exit → Act → World → Prop} (hgd : op.guard = none) (x y : Operand)
    (hop : op.op = .call { callee := .builtin .delete, args := #[x, y], argTypes := #[t, kt] })
    (ht : P.underlying t = some (.map kt et)) (hk : P.underlying kt = some (.int .i64)) (o : Own w (SP.mpI f b m :: l)) (k : Int)
    (hx : A.eval x = .map (some b)) (hy : A.eval y = .int .i64 k)
    (h : ∀ w', Own w' (SP.mpI f b (mdel m k) :: l) → Calm w w' → wpList P ops Q rest (A.put op.dst (.tuple #[])) w') : wpList P ops Q (op :: rest) A w := by
  refine wpList_plain hgd fun K hK => ?_
  obtain ⟨w', hr, h2, h3⟩ := run_delete_mpI op.type ht hk o k #[t, kt] rfl
  unfold Oper.wp execOp
  simp only [hop, resolve, invoke, builtin, Sem.run_bind, Sem.run_pure, Result.andThen_ok, List.map_toArray, List.map_cons, List.map_nil, hx, hy, hr]
  exact hK _ _ (h w' h2 h3)
end

/-! ### Regions that draw their order: quiet operations, then operations in one forced order -/
theorem wp_region_tail {P : Program} {id : Nat} {Q : Exit → Act → World → Prop} {a : Act} {w : World} {l : List Oper} (n : Nat) (hm : P.follows .mixedOrders = true) (hB : Region.lexTailB .any l.toArray n = true)
    (h : wpStill P l.toArray w.drew (fun a' => wpList P l.toArray Q (l.drop n) a' w.drew) (l.take n) a) : (Code.region id l.toArray true).wp P Q a w :=
  wp_region_still_tail n hm hB h

end Go.Proofs.YtjpahfkchhnpoaaGreat

/- What the texts of all chapters share: cells of lists of structs, results of calls, lists of pairs as maps. -/
namespace Go.Proofs.YtjpahfkchhnpoaaGreat
open Go.RowKit
open SP

/-- The cells of a list of things that take sz cells each. -/
def flat {α : Type} (g : α → List Value) (xs : List α) : List Value := xs.flatMap g

theorem flat_length {α : Type} {g : α → List Value} {sz : Nat} (hg : ∀ x, (g x).length = sz) (xs : List α) : (flat g xs).length = xs.length * sz := by
  induction xs with
  | nil => simp [flat]
  | cons x xs ih => unfold flat at *; rw [List.flatMap_cons, List.length_append, ih, hg, List.length_cons, Nat.add_mul]; omega

theorem flat_get {α : Type} {g : α → List Value} {sz : Nat} (hg : ∀ x, (g x).length = sz) : ∀ (xs : List α) (i j : Nat) (x : α), xs[i]? = some x → j < sz → (flat g xs)[i * sz + j]? = (g x)[j]?
  | [], i, j, x, h, _ => by simp at h
  | y :: xs, 0, j, x, h, hj => by
    simp at h; subst h
    unfold flat
    rw [List.flatMap_cons, Nat.zero_mul, Nat.zero_add, List.getElem?_append_left (by rw [hg]; exact hj)]
  | y :: xs, i + 1, j, x, h, hj => by
    unfold flat
    rw [List.flatMap_cons, List.getElem?_append_right (by rw [hg, Nat.add_mul]; omega), hg]
    have := flat_get hg xs i j x (by simpa using h) hj
    unfold flat at this
    rw [← this]
    congr 1
    rw [Nat.add_mul]; omega

theorem flat_append {α : Type} (g : α → List Value) (xs ys : List α) : flat g (xs ++ ys) = flat g xs ++ flat g ys := by simp [flat]

/-- What a call gives back, and what the world owns behind it. -/
def Ret (v : Value) (l : List SP) (w : World) (e : Ending) (w' : World) : Prop := e = .returned v ∧ Own w' l ∧ Calm w w'
def IsRet (v : Value) (w : World) (e : Ending) (w' : World) : Prop := e = .returned v ∧ w = w'
theorem IsRet.still {P : Program} {f : FuncId} {args : Array Value} {w : World} {v : Value} (h : Calls P f args w (IsRet v w)) : Calls P f args w (fun e w'' => e = .returned v ∧ w'' = w) :=
  h.mono fun _ _ ⟨he, hw⟩ => ⟨he, hw.symm⟩

theorem Calm.dn {a b : World} (h : Calm a b) (n : Nat) : Calm a (b.drewN n) := ⟨h.os, h.tape, h.output⟩
theorem Calm.d1 {a b : World} (h : Calm a b) : Calm a b.drew := ⟨h.os, h.tape, h.output⟩
theorem Calm.u1 {a b : World} (h : Calm a.drew b) : Calm a b := ⟨h.os, h.tape, h.output⟩

theorem Calm.al {a b : World} {x : Obj} (h : Calm (a.alloc x) b) : Calm a b := ⟨h.os, h.tape, h.output⟩
theorem Calm.sc {a b : World} {x : Addr} {v : Value} (h : Calm (a.setCell x v) b) : Calm a b := ⟨h.os, h.tape, h.output⟩

/-- What is owned stays owned when a new block comes. -/
theorem Own.more {w : World} {R : List SP} (o : Own w R) (x : Obj) : Own (w.alloc x) R := (o.alloc x).drop

/-- A slice is cut before its last element, which becomes spare. -/
theorem Own.slc_cut {w : World} {e : TypeId} {size : Nat} {a : Option Addr} {n cap : Nat} {xs ys : List Value} {l : List SP} (o : Own w (SP.slc e size a (n + 1) cap (xs ++ ys) :: l)) (hx : xs.length = n * size) :
    Own w (SP.slc e size a n cap xs :: l) := by
  rcases Own.slc.1 o with ⟨_, h, _⟩ | ⟨b, sp, rfl, h1, h2, h3, h4, o1⟩
  · omega
  · refine Own.slc.2 (.inr ⟨b, ys ++ sp, rfl, by omega, h2, hx, ?_, by rw [← List.append_assoc]; exact o1⟩)
    rw [List.length_append, hx] at h3
    rw [List.length_append, h4]
    have e1 : cap - n = (cap - (n + 1)) + 1 := by omega
    rw [e1, Nat.add_mul (cap - (n + 1)), Nat.one_mul]
    rw [Nat.add_mul, Nat.one_mul] at h3
    omega

section
variable {α : Type}
theorem mget_mput (m : List (Int × α)) (k k' : Int) (v : α) : mget (mput m k v) k' = if k' = k then some v else mget m k' := by
  induction m with
  | nil => simp [mput, mget]
  | cons x m ih =>
    obtain ⟨k0, v0⟩ := x
    unfold mput
    by_cases h : k = k0
    · subst h
      rw [if_pos rfl]
      unfold mget
      split <;> simp_all
    · rw [if_neg h]
      unfold mget
      by_cases h' : k' = k0
      · subst h'
        rw [if_pos rfl, if_neg (Ne.symm h), if_pos rfl]
      · rw [if_neg h', if_neg h', ih]
/-- No key stands twice. -/
def Uniq (m : List (Int × α)) : Prop := (m.map (·.1)).Nodup
theorem mget_none {m : List (Int × α)} {k : Int} : mget m k = none ↔ k ∉ m.map (·.1) := by
  induction m with
  | nil => simp [mget]
  | cons x m ih =>
    obtain ⟨k0, v0⟩ := x
    unfold mget
    by_cases h : k = k0
    · simp [h]
    · rw [if_neg h, ih]; simp [h]
theorem mput_keys (m : List (Int × α)) (k : Int) (v : α) : (mput m k v).map (·.1) = if k ∈ m.map (·.1) then m.map (·.1) else m.map (·.1) ++ [k] := by
  induction m with
  | nil => simp [mput]
  | cons x m ih =>
    obtain ⟨k0, v0⟩ := x
    unfold mput
    by_cases h : k = k0
    · simp [h]
    · rw [if_neg h]
      simp only [List.map_cons, ih, List.mem_cons, h, false_or]
      split <;> simp
theorem Uniq.mput {m : List (Int × α)} (h : Uniq m) (k : Int) (v : α) : Uniq (mput m k v) := by
  unfold Uniq at *
  rw [mput_keys]
  split
  · exact h
  · rename_i hk
    rw [List.nodup_append]
    refine ⟨h, by simp, ?_⟩
    intro a ha b hb
    simp at hb
    subst hb
    exact fun e => hk (e ▸ ha)
theorem mdel_keys (m : List (Int × α)) (k : Int) : (mdel m k).map (·.1) = (m.map (·.1)).erase k := by
  induction m with
  | nil => simp [mdel]
  | cons x m ih =>
    obtain ⟨k0, v0⟩ := x
    unfold mdel
    by_cases h : k = k0
    · simp [h]
    · rw [if_neg h]
      simp only [List.map_cons, ih]
      rw [List.erase_cons_tail]
      simpa using Ne.symm h
theorem Uniq.mdel {m : List (Int × α)} (h : Uniq m) (k : Int) : Uniq (mdel m k) := by
  unfold Uniq at *
  rw [mdel_keys]
  exact h.erase k
theorem mget_mdel {m : List (Int × α)} (h : Uniq m) (k k' : Int) : mget (mdel m k) k' = if k' = k then none else mget m k' := by
  induction m with
  | nil => simp [Go.Proofs.YtjpahfkchhnpoaaGreat.mdel, mget]
  | cons x m ih =>
    obtain ⟨k0, v0⟩ := x
    unfold Uniq at h
    rw [List.map_cons, List.nodup_cons] at h
    unfold Go.Proofs.YtjpahfkchhnpoaaGreat.mdel
    by_cases hk : k = k0
    · subst hk
      rw [if_pos rfl]
      by_cases h' : k' = k
      · subst h'; rw [if_pos rfl]; exact mget_none.2 h.1
      · rw [if_neg h']; conv => rhs; unfold mget
        rw [if_neg h']
    · rw [if_neg hk]
      unfold mget
      by_cases h' : k' = k0
      · subst h'; rw [if_pos rfl, if_neg (Ne.symm hk), if_pos rfl]
      · rw [if_neg h', if_neg h', ih h.2]
end

theorem set_self {α : Type} {l : List α} {i : Nat} {x : α} (h : l[i]? = some x) : l.set i x = l := by
  apply List.ext_getElem?
  intro j
  rw [List.getElem?_set]
  split
  · rename_i hij; subst hij
    split
    · exact h.symm
    · rename_i hl; rw [List.getElem?_eq_none (by omega)] at h; cases h
  · rfl

theorem nodup_get {l : List Int} (h : l.Nodup) {i j : Nat} {x : Int} (hi : l[i]? = some x) (hj : l[j]? = some x) : i = j := by
  have h1 := (List.getElem?_eq_some_iff.1 hi)
  have h2 := (List.getElem?_eq_some_iff.1 hj)
  exact (List.getElem_inj h).1 (h1.2.trans h2.2.symm)

theorem nodup_iff_get {l : List Int} : l.Nodup ↔ ∀ i j, i < j → j < l.length → l[i]? ≠ l[j]? := by
  rw [List.nodup_iff_pairwise_ne, List.pairwise_iff_getElem]
  constructor
  · intro h i j hij hj
    rw [List.getElem?_eq_getElem (by omega), List.getElem?_eq_getElem hj]
    simpa using h i j (by omega) hj hij
  · intro h i j hi hj hij
    have := h i j hij hj
    rw [List.getElem?_eq_getElem (by omega), List.getElem?_eq_getElem hj] at this
    simpa using this

theorem mget_at {α : Type} {m : List (Int × α)} (hu : Uniq m) {i : Nat} {x : Int × α} (hx : m[i]? = some x) : mget m x.1 = some x.2 := by
  induction m generalizing i with
  | nil => simp at hx
  | cons y m ih =>
    obtain ⟨k0, v0⟩ := y
    unfold Uniq at hu
    rw [List.map_cons, List.nodup_cons] at hu
    cases i with
    | zero => simp at hx; subst hx; simp [mget]
    | succ i =>
      have hx' : m[i]? = some x := by simpa using hx
      have hne : x.1 ≠ k0 := fun e => hu.1 (e ▸ List.mem_map.2 ⟨x, List.mem_of_getElem? hx', rfl⟩)
      unfold mget
      rw [if_neg hne]
      exact ih hu.2 hx'
theorem mget_mem {α : Type} {m : List (Int × α)} (hu : Uniq m) {x : Int × α} (hx : x ∈ m) : mget m x.1 = some x.2 := by
  obtain ⟨i, hi⟩ := List.getElem?_of_mem hx
  exact mget_at hu hi
theorem mem_of_mget {α : Type} {m : List (Int × α)} {k : Int} {v : α} (h : mget m k = some v) : (k, v) ∈ m := by
  induction m with
  | nil => simp [mget] at h
  | cons y m ih =>
    obtain ⟨k0, v0⟩ := y
    unfold mget at h
    split at h
    · rename_i hk; subst hk; simp at h; subst h; simp
    · exact List.mem_cons_of_mem _ (ih h)

end Go.Proofs.YtjpahfkchhnpoaaGreat

/- The keys of a list of pairs, ascending. -/
namespace Go.Proofs.YtjpahfkchhnpoaaGreat
open Go.RowKit
/-- The keys of a list of pairs, ascending. -/
def sortK {α : Type} (m : List (Int × α)) : List Int := (m.map (·.1)).mergeSort leI

def KeyOk {α : Type} (m : List (Int × α)) : Prop := Uniq m ∧ ∀ x ∈ m, -9223372036854775808 ≤ x.1 ∧ x.1 ≤ 9223372036854775807

end Go.Proofs.YtjpahfkchhnpoaaGreat

/- slices.Sorted(maps.Keys(m)) at int keys, in the separation logic: a new slice that holds the keys in ascending order. -/
namespace Go.Proofs.YtjpahfkchhnpoaaGreat
open Go.RowKit
open Go.Shelf
open SP

section
variable {α : Type} {f : α → Value} {w w' : World} {R : List SP} {b : Nat} {m : List (Int × α)}

/-- What lies below stays owned. -/
theorem Own.of_below {l : List SP} (o : Own w l) (h : Below w.heap.size w w') : Own w' l := by
  obtain ⟨σ, hs, hw⟩ := o
  exact ⟨σ, hs, fun k x hk => by rw [h.block k (Array.getElem?_eq_some_iff.1 (hw k x hk)).1]; exact hw k x hk⟩

/-- A new row of the call's own, beside what was owned. -/
theorem own_of_row {l : List SP} (o : Own w l) (h : Below w.heap.size w w') {e : TypeId} {size n : Nat} {v : Value} {xs : List Value} (hr : w'.ownsRow w.heap.size e size v n xs) :
    ∃ a cap, v = .slice a n cap ∧ Own w' (SP.slc e size a n cap xs :: l) := by
  have o' := o.of_below h
  obtain ⟨hx, hr⟩ := hr
  rcases hr with ⟨rfl, rfl⟩ | ⟨g, cap, cur, rfl, hg, hb, h1, h2, h3, h4⟩
  · have hxs : xs = [] := List.eq_nil_of_length_eq_zero (by simpa using hx)
    subst hxs
    exact ⟨none, 0, rfl, o'.slc_nil⟩
  · refine ⟨some ⟨g, 0, none⟩, cap, rfl, Own.slc.2 (.inr ⟨g, cur.toList.drop (n * size), rfl, h1, h2, hx, ?_, ?_⟩)⟩
    · rw [List.length_drop, Array.length_toList, h3, ← Nat.sub_mul]
    · have e1 : xs ++ cur.toList.drop (n * size) = cur.toList := by rw [← h4]; exact List.take_append_drop _ _
      rw [e1]
      obtain ⟨σ, hs, hw⟩ := o
      refine ⟨_, ⟨_, σ, rfl, hs, fun k => ?_, rfl⟩, fun k x hk => ?_⟩
      · by_cases hk : k = g
        · subst hk
          refine .inr ?_
          cases hσ : σ k with
          | none => rfl
          | some y => exact absurd (Array.getElem?_eq_some_iff.1 (hw k y hσ)).1 (by omega)
        · exact .inl (if_neg hk)
      · by_cases hk' : k = g
        · subst hk'
          have hx2 : x = .cells cur e (0, 0) := by simpa [Hp.cup] using hk.symm
          rw [hb, hx2]
        · have hk2 : σ k = some x := by simpa [Hp.cup, hk'] using hk
          rw [h.block k (Array.getElem?_eq_some_iff.1 (hw k x hk2)).1]
          exact hw k x hk2

def anyR (_ : Value) : Option (DataW Unit × List MemPlace) := some (.nil, [])

theorem i64wf {k : Int} (h : -9223372036854775808 ≤ k ∧ k ≤ 9223372036854775807) : (Lit.int .i64 k).wf = true := by
  simp only [Lit.wf, Bool.and_eq_true, decide_eq_true_eq]
  rw [show IntKind.i64.min = -9223372036854775808 from by decide, show IntKind.i64.max = 9223372036854775807 from by decide]
  exact h

theorem mpI_ownsMap (hk : KeyOk m) (hn : m.length ≤ 1000000) (o : Own w (mpI f b m :: R)) :
    ∃ D0 : DataW Unit, w.ownsMap Tryz.prog 3 anyR b m.length D0 ∧ (intKeys D0).Perm (m.map (·.1)) ∧ Maps.size D0 = m.length := by
  obtain ⟨es, clock, h1, h2, h3, o1⟩ := Own.mpI.1 o
  have hl : es.toList.length = m.length := by have := congrArg List.length h1; simpa using this
  have hkeys : es.toList.map (·.key) = m.map (fun x => Value.int .i64 x.1) := by
    have := congrArg (List.map Prod.fst) h1
    simpa [List.map_map, Function.comp_def] using this
  have hrd : ∀ x ∈ es.toList, ∃ k : Int, x.key = .int .i64 k ∧ WideElems.rd (H := Unit) Tryz.prog 3 anyR x = some (.int .i64 k, .nil) := by
    intro x hx
    have h4 : x.key ∈ m.map (fun x => Value.int .i64 x.1) := by rw [← hkeys]; exact List.mem_map.2 ⟨x, hx, rfl⟩
    obtain ⟨y, hy, hyk⟩ := List.mem_map.1 h4
    refine ⟨y.1, hyk.symm, ?_⟩
    unfold WideElems.rd
    rw [← hyk, Maps.keyOf_int_mk Tryz.underlying3 (i64wf (hk.2 y hy))]
    rfl
  have hrg : ∀ l : List MapEntry, (∀ x ∈ l, ∃ k : Int, x.key = .int .i64 k ∧ WideElems.rd (H := Unit) Tryz.prog 3 anyR x = some (.int .i64 k, .nil)) →
      (l.map (WideElems.rg (H := Unit) Tryz.prog 3 anyR)).map (fun p => encZ (Go.intOf p.1)) = l.map (·.key) := by
    intro l
    induction l with
    | nil => intro _; rfl
    | cons x l ih =>
      intro h
      obtain ⟨k, h5, h6⟩ := h x (by simp)
      simp only [List.map_cons, ih (fun y hy => h y (by simp [hy])), List.cons.injEq, and_true]
      unfold WideElems.rg
      rw [h6, h5]
      rfl
  have hinj : ∀ (l l' : List Int), l.map encZ = l'.map encZ → l = l' := by
    intro l
    induction l with
    | nil => intro l' h; cases l' <;> simp_all
    | cons x l ih => intro l' h; cases l' with
      | nil => simp at h
      | cons y l' => simp at h; rw [h.1, ih l' (by simpa using h.2)]
  refine ⟨.map ((es.toList.map (WideElems.rg Tryz.prog 3 anyR)).foldr DataW.insert []), ⟨es, clock, o1.blk, ⟨?_, ?_, ?_⟩, ?_, rfl⟩, ?_, ?_⟩
  · rw [← Array.length_toList, hl]; unfold maxLen; omega
  · refine ⟨h3, ?_, ?_⟩
    · rw [List.Nodup, List.pairwise_map]
      exact h2.imp (fun h => Nat.ne_of_lt h)
    · rw [hkeys, List.Nodup, List.pairwise_map]
      have := hk.1
      unfold Uniq at this
      rw [List.Nodup, List.pairwise_map] at this
      exact this.imp (fun h e => h (by simpa using e))
  · intro x hx; obtain ⟨k, _, h⟩ := hrd x hx; exact ⟨_, h⟩
  · rw [← Array.length_toList, hl]; exact Nat.le_refl _
  · have hp := (WideShapes.sorted_perm (es.toList.map (WideElems.rg (H := Unit) Tryz.prog 3 anyR))).map (fun p => Go.intOf p.1)
    have e1 : (es.toList.map (WideElems.rg (H := Unit) Tryz.prog 3 anyR)).map (fun p => Go.intOf p.1) = m.map (·.1) := by
      apply hinj
      have := hrg es.toList hrd
      rw [hkeys] at this
      simpa [List.map_map, Function.comp_def, encZ] using this
    rw [e1] at hp
    exact hp
  · have := (WideShapes.sorted_perm (es.toList.map (WideElems.rg (H := Unit) Tryz.prog 3 anyR))).length_eq
    rw [List.length_map, hl] at this
    exact this

theorem Tryz.sortsIn (k : Nat) : AnyZI.SortsIn Tryz.prog Tryz.sorted_ren Fence.wide k :=
  ⟨fun blk off cap ss W hH hblk hsz => callsIn_wide.2 (AnyM.slices_Sort_int Tryz.sort blk off cap ss W hH hblk hsz),
   fun p cap W => callsIn_wide.2 (AnyM.slices_Sort_int_none Tryz.sort p cap W)⟩

theorem mergeSort_same {l l' : List Int} (h : l.Perm l') : l.mergeSort (fun x y => decide (x ≤ y)) = l'.mergeSort leI := mergeSort_of_perm_i h
end
end Go.Proofs.YtjpahfkchhnpoaaGreat

/- slices.Sorted(maps.Keys(m)) at int keys, at maps of tags and of ints. -/
namespace Go.Proofs.YtjpahfkchhnpoaaGreat
open Go.RowKit
open Go.Shelf
open SP
section
variable {α : Type} {f : α → Value} {w w' : World} {R : List SP} {b : Nat} {m : List (Int × α)}

theorem keysTag_spec (mb : Option Nat) (w : World) : Calls Tryz.prog 77 #[.map mb] w fun e w' => e = .returned (.func (.func 108) #[] #[.pointer (some ⟨w.heap.size, 0, none⟩)]) ∧ w' = w.alloc (.cells #[.map mb] 106) :=
  callsIn_wide.1 (AnyZI.keys_in Tryz.keys77 Fence.wide 5 trivial rfl mb w)

set_option maxHeartbeats 1000000 in
theorem sortedTag_spec (kb : Nat) (hk : KeyOk m) (hn : m.length ≤ 1000000) (o : Own w (cel kb 106 [.map (some b)] :: mpI f b m :: R)) :
    Calls Tryz.prog 76 #[.func (.func 108) #[] #[.pointer (some ⟨kb, 0, none⟩)]] w fun e w' =>
      ∃ a cap, e = .returned (.slice a m.length cap) ∧ Own w' (slc 3 1 a m.length cap ((sortK m).map (Value.int .i64)) :: mpI f b m :: R) ∧ Calm w w' := by
  obtain ⟨D0, hown, hperm, hsize⟩ := mpI_ownsMap hk hn o.drop
  have hlt := o.celLt
  have hseq : SeqGives Fence.wide 2 Tryz.prog 108 #[.pointer (some ⟨kb, 0, none⟩)] encZ (fun ss => ss.Perm (intKeys D0)) (Maps.size D0) w :=
    AnyZI.keys_gives (ρ := Tryz.keys77_ren) { Tryz.keys77 with } Fence.wide _ trivial rfl (by omega) kb b m.length D0 _ hlt (o.cell 0) hown
  have cS := AnyZI.sorted_in Tryz.sorted Fence.wide 5 trivial trivial trivial trivial rfl (by omega) (Tryz.sortsIn _) (enters_of Tryz.func107 (by kernel_rfl) rfl) 108 #[.pointer (some ⟨kb, 0, none⟩)] trivial (enters_of Tryz.func108 (by kernel_rfl) rfl) _ _
    (by rw [hsize]; unfold maxLen; omega) (by rw [hsize]; omega) _ hseq
  refine (callsIn_wide.1 cS).mono ?_
  rintro e w' ⟨v, ss, rfl, hS, hrow, _, hb⟩
  have hsp := hS.trans hperm
  have hlen : ss.length = m.length := by rw [hsp.length_eq, List.length_map]
  rw [hlen, mergeSort_same hsp] at hrow
  obtain ⟨a, cap, rfl, o2⟩ := own_of_row o.drop hb hrow
  exact ⟨a, cap, rfl, o2, ⟨hb.os, hb.tape, hb.output⟩⟩

theorem keysInt_spec (mb : Option Nat) (w : World) : Calls Tryz.prog 136 #[.map mb] w fun e w' => e = .returned (.func (.func 155) #[] #[.pointer (some ⟨w.heap.size, 0, none⟩)]) ∧ w' = w.alloc (.cells #[.map mb] 113) :=
  callsIn_wide.1 (AnyZI.keys_in Tryz.keys136 Fence.wide 5 trivial rfl mb w)

set_option maxHeartbeats 1000000 in
theorem sortedInt_spec (kb : Nat) (hk : KeyOk m) (hn : m.length ≤ 1000000) (o : Own w (cel kb 113 [.map (some b)] :: mpI f b m :: R)) :
    Calls Tryz.prog 76 #[.func (.func 155) #[] #[.pointer (some ⟨kb, 0, none⟩)]] w fun e w' =>
      ∃ a cap, e = .returned (.slice a m.length cap) ∧ Own w' (slc 3 1 a m.length cap ((sortK m).map (Value.int .i64)) :: mpI f b m :: R) ∧ Calm w w' := by
  obtain ⟨D0, hown, hperm, hsize⟩ := mpI_ownsMap hk hn o.drop
  have hlt := o.celLt
  have hseq : SeqGives Fence.wide 2 Tryz.prog 155 #[.pointer (some ⟨kb, 0, none⟩)] encZ (fun ss => ss.Perm (intKeys D0)) (Maps.size D0) w :=
    AnyZI.keys_gives (ρ := Tryz.keys136_ren) { Tryz.keys136 with } Fence.wide _ trivial rfl (by omega) kb b m.length D0 _ hlt (o.cell 0) hown
  have cS := AnyZI.sorted_in Tryz.sorted Fence.wide 5 trivial trivial trivial trivial rfl (by omega) (Tryz.sortsIn _) (enters_of Tryz.func107 (by kernel_rfl) rfl) 155 #[.pointer (some ⟨kb, 0, none⟩)] trivial (enters_of Tryz.func155 (by kernel_rfl) rfl) _ _
    (by rw [hsize]; unfold maxLen; omega) (by rw [hsize]; omega) _ hseq
  refine (callsIn_wide.1 cS).mono ?_
  rintro e w' ⟨v, ss, rfl, hS, hrow, _, hb⟩
  have hsp := hS.trans hperm
  have hlen : ss.length = m.length := by rw [hsp.length_eq, List.length_map]
  rw [hlen, mergeSort_same hsp] at hrow
  obtain ⟨a, cap, rfl, o2⟩ := own_of_row o.drop hb hrow
  exact ⟨a, cap, rfl, o2, ⟨hb.os, hb.tape, hb.output⟩⟩
end
end Go.Proofs.YtjpahfkchhnpoaaGreat

/- Tags in a list that ascends, and how a map represents them. -/
namespace Go.Proofs.YtjpahfkchhnpoaaGreat
open Go.RowKit
open SP

/-- A tag: a flow, its weight, its start tag. -/
structure Tg where
  f : Int
  w : Int
  s : Int

instance : DecidableEq Tg := fun a b => decidable_of_iff (a.f = b.f ∧ a.w = b.w ∧ a.s = b.s) ⟨fun ⟨h1, h2, h3⟩ => by cases a; cases b; simp_all, fun h => by rw [h]; exact ⟨rfl, rfl, rfl⟩⟩

def tagV (t : Tg) : Value := .agg #[.int .i64 t.f, .int .i64 t.w, .int .i64 t.s]
def tagC (t : Tg) : List Value := [.int .i64 t.f, .int .i64 t.w, .int .i64 t.s]
theorem tagC_len (t : Tg) : (tagC t).length = 3 := rfl

/-- A list of active flows, ascending. -/
structure LOk (L : List Tg) : Prop where
  asc : L.Pairwise (fun a b => a.f < b.f)
  rng : ∀ t ∈ L, 0 ≤ t.f ∧ t.f < 32 ∧ 1 ≤ t.w ∧ t.w ≤ 16 ∧ 0 ≤ t.s ∧ t.s ≤ 1099511627776

def fget (L : List Tg) (k : Int) : Option Tg := L.find? (fun t => t.f == k)
def insT (x : Tg) : List Tg → List Tg
  | [] => [x]
  | t :: L => if t.f < x.f then t :: insT x L else x :: t :: L
def delT (k : Int) (L : List Tg) : List Tg := L.filter (fun t => !(t.f == k))
def setT (x : Tg) (L : List Tg) : List Tg := L.map (fun t => if t.f = x.f then x else t)
def pairT (t : Tg) : Int × Tg := (t.f, t)

theorem fget_cons (a : Tg) (L : List Tg) (k : Int) : fget (a :: L) k = if a.f = k then some a else fget L k := by
  unfold fget
  rw [List.find?_cons]
  by_cases h : a.f = k
  · have : (a.f == k) = true := by simpa using h
    rw [this, if_pos h]
  · have : (a.f == k) = false := by simpa using h
    rw [this, if_neg h]
theorem fget_some {L : List Tg} {k : Int} {t : Tg} (h : fget L k = some t) : t ∈ L ∧ t.f = k := by
  unfold fget at h
  exact ⟨List.mem_of_find?_eq_some h, by have := List.find?_some h; simpa using this⟩
theorem fget_none {L : List Tg} {k : Int} : fget L k = none ↔ ∀ t ∈ L, t.f ≠ k := by
  unfold fget; rw [List.find?_eq_none]; simp
theorem fget_mem {L : List Tg} (h : LOk L) {t : Tg} (ht : t ∈ L) : fget L t.f = some t := by
  have h1 := h.asc
  clear h
  induction L with
  | nil => simp at ht
  | cons a L ih =>
    rw [List.pairwise_cons] at h1
    unfold fget
    rw [List.find?_cons]
    rcases List.mem_cons.1 ht with rfl | ht
    · simp
    · have := h1.1 t ht
      have hne : (a.f == t.f) = false := by simpa using Int.ne_of_lt this
      rw [hne]
      exact ih ht h1.2
theorem LOk.inj {L : List Tg} (h : LOk L) {a b : Tg} (ha : a ∈ L) (hb : b ∈ L) (e : a.f = b.f) : a = b := by
  have h1 := fget_mem h ha
  have h2 := fget_mem h hb
  rw [e, h2] at h1
  simpa using h1.symm

theorem mem_insT {x t : Tg} {L : List Tg} : t ∈ insT x L ↔ t = x ∨ t ∈ L := by
  induction L with
  | nil => simp [insT]
  | cons a L ih =>
    unfold insT
    split
    · simp only [List.mem_cons, ih]
      constructor
      · rintro (h | h | h) <;> simp [h]
      · rintro (h | h | h) <;> simp [h]
    · simp
theorem perm_insT (x : Tg) : ∀ L : List Tg, (insT x L).Perm (x :: L)
  | [] => .refl _
  | a :: L => by
    unfold insT
    split
    · exact ((perm_insT x L).cons a).trans (.swap x a L)
    · exact .refl _
theorem LOk.ins {L : List Tg} (h : LOk L) {x : Tg} (hx : 0 ≤ x.f ∧ x.f < 32 ∧ 1 ≤ x.w ∧ x.w ≤ 16 ∧ 0 ≤ x.s ∧ x.s ≤ 1099511627776) (hn : fget L x.f = none) : LOk (insT x L) := by
  have hne := fget_none.1 hn
  refine ⟨?_, fun t ht => ?_⟩
  · have h1 := h.asc
    clear h hn
    induction L with
    | nil => simp [insT]
    | cons a L ih =>
      rw [List.pairwise_cons] at h1
      unfold insT
      split
      · rename_i hlt
        rw [List.pairwise_cons]
        refine ⟨fun t ht => ?_, ih (fun t ht => hne t (by simp [ht])) h1.2⟩
        rcases mem_insT.1 ht with rfl | ht
        · exact hlt
        · exact h1.1 t ht
      · rename_i hlt
        have ha := hne a (by simp)
        rw [List.pairwise_cons]
        refine ⟨fun t ht => ?_, List.pairwise_cons.2 h1⟩
        rcases List.mem_cons.1 ht with rfl | ht
        · omega
        · have := h1.1 t ht; omega
  · rcases mem_insT.1 ht with rfl | ht
    · exact hx
    · exact h.rng t ht
theorem LOk.del {L : List Tg} (h : LOk L) (k : Int) : LOk (delT k L) :=
  ⟨h.asc.sublist List.filter_sublist, fun t ht => h.rng t (List.mem_filter.1 ht).1⟩
theorem mem_delT {L : List Tg} {k : Int} {t : Tg} : t ∈ delT k L ↔ t ∈ L ∧ t.f ≠ k := by
  unfold delT; rw [List.mem_filter]; simp
theorem setT_f (x : Tg) (L : List Tg) : (setT x L).map (·.f) = L.map (·.f) := by
  unfold setT
  rw [List.map_map]
  refine List.map_congr_left fun t _ => ?_
  simp only [Function.comp]
  split
  · rename_i h; exact h.symm
  · rfl
theorem mem_setT {x t : Tg} {L : List Tg} (h : t ∈ setT x L) : t = x ∨ t ∈ L ∧ t.f ≠ x.f := by
  unfold setT at h
  obtain ⟨u, hu, rfl⟩ := List.mem_map.1 h
  split
  · exact .inl rfl
  · rename_i h'; exact .inr ⟨hu, h'⟩
theorem mem_setT_of {x t : Tg} {L : List Tg} (h : t ∈ L) (hne : t.f ≠ x.f) : t ∈ setT x L :=
  List.mem_map.2 ⟨t, h, by rw [if_neg hne]⟩
theorem mem_setT_self {x t : Tg} {L : List Tg} (h : t ∈ L) (he : t.f = x.f) : x ∈ setT x L :=
  List.mem_map.2 ⟨t, h, by rw [if_pos he]⟩
theorem asc_iff {L : List Tg} : L.Pairwise (fun a b => a.f < b.f) ↔ (L.map (·.f)).Pairwise (· < ·) := by rw [List.pairwise_map]
theorem LOk.set {L : List Tg} (h : LOk L) {x : Tg} (hx : 0 ≤ x.f ∧ x.f < 32 ∧ 1 ≤ x.w ∧ x.w ≤ 16 ∧ 0 ≤ x.s ∧ x.s ≤ 1099511627776) : LOk (setT x L) := by
  refine ⟨?_, fun t ht => ?_⟩
  · rw [asc_iff, setT_f, ← asc_iff]; exact h.asc
  · rcases mem_setT ht with rfl | ⟨ht, _⟩
    · exact hx
    · exact h.rng t ht
theorem LOk.len {L : List Tg} (h : LOk L) : L.length ≤ 32 := by
  have key : ∀ (l : List Int) (n : Int), l.Pairwise (· < ·) → (∀ x ∈ l, n ≤ x ∧ x < 32) → n ≤ 32 → (l.length : Int) ≤ 32 - n := by
    intro l
    induction l with
    | nil => intro n _ _ h; simp; omega
    | cons a l ih =>
      intro n hp hr hn
      rw [List.pairwise_cons] at hp
      have ha := hr a (by simp)
      have := ih (a + 1) hp.2 (fun x hx => ⟨by have := hp.1 x hx; omega, (hr x (by simp [hx])).2⟩) (by omega)
      rw [List.length_cons]
      omega
  have := key (L.map (·.f)) 0 (asc_iff.1 h.asc) (fun x hx => by
    obtain ⟨t, ht, rfl⟩ := List.mem_map.1 hx
    exact ⟨(h.rng t ht).1, (h.rng t ht).2.1⟩) (by omega)
  rw [List.length_map] at this
  omega

/-- The map holds the active flows, in whatever order. -/
structure Rep (m : List (Int × Tg)) (L : List Tg) : Prop where
  ok : LOk L
  perm : m.Perm (L.map pairT)

section
variable {m : List (Int × Tg)} {L : List Tg}
theorem Rep.keys (h : Rep m L) : (m.map (·.1)).Perm (L.map (·.f)) := by
  have := h.perm.map (·.1)
  rw [List.map_map] at this
  exact this
theorem Rep.uniq (h : Rep m L) : Uniq m := by
  unfold Uniq
  rw [h.keys.nodup_iff]
  exact (asc_iff.1 h.ok.asc).imp Int.ne_of_lt
theorem Rep.keyOk (h : Rep m L) : KeyOk m := by
  refine ⟨h.uniq, fun x hx => ?_⟩
  have := h.keys.mem_iff.1 (List.mem_map.2 ⟨x, hx, rfl⟩)
  obtain ⟨t, ht, he⟩ := List.mem_map.1 this
  have := h.ok.rng t ht
  omega
theorem Rep.len (h : Rep m L) : m.length = L.length := by rw [h.perm.length_eq, List.length_map]
theorem Rep.get (h : Rep m L) (k : Int) : mget m k = fget L k := by
  cases hf : fget L k with
  | none =>
    rw [mget_none]
    intro hk
    obtain ⟨t, ht, he⟩ := List.mem_map.1 (h.keys.mem_iff.1 hk)
    exact fget_none.1 hf t ht he
  | some t =>
    obtain ⟨h1, h2⟩ := fget_some hf
    have : pairT t ∈ m := h.perm.mem_iff.2 (List.mem_map.2 ⟨t, h1, rfl⟩)
    have := mget_mem h.uniq this
    rw [← h2]; exact this
theorem Rep.sort (h : Rep m L) : sortK m = L.map (·.f) := by
  unfold sortK
  refine List.Perm.eq_of_pairwise (le := fun a b => a ≤ b) (fun a b _ _ h1 h2 => Int.le_antisymm h1 h2) ?_ ?_ ((List.mergeSort_perm _ _).trans h.keys)
  · have := List.pairwise_mergeSort (le := leI) (fun a b c h1 h2 => by simp [leI] at *; omega) (fun a b => by simp [leI]; omega) (m.map (·.1))
    exact this.imp (fun h => by simpa [leI] using h)
  · exact (asc_iff.1 h.ok.asc).imp Int.le_of_lt
theorem mput_set_perm {x : Tg} (hi : (mget m x.f).isSome) (hu : Uniq m) : mput m x.f x = m.map (fun p => if p.1 = x.f then (x.f, x) else p) := by
  induction m with
  | nil => simp [mget] at hi
  | cons p m ih =>
    obtain ⟨k0, v0⟩ := p
    unfold Uniq at hu
    rw [List.map_cons, List.nodup_cons] at hu
    unfold mput
    by_cases hk : x.f = k0
    · subst hk
      rw [if_pos rfl, List.map_cons, if_pos rfl]
      congr 1
      symm
      rw [List.map_congr_left (g := id) (fun p hp => ?_), List.map_id]
      rw [if_neg]; rfl
      intro e
      exact hu.1 (List.mem_map.2 ⟨p, hp, e⟩)
    · rw [if_neg hk, List.map_cons, if_neg (fun e => hk e.symm)]
      rw [ih (by unfold mget at hi; rw [if_neg hk] at hi; exact hi) hu.2]
theorem Rep.set (h : Rep m L) {x : Tg} (hi : fget L x.f ≠ none) (hx : 0 ≤ x.f ∧ x.f < 32 ∧ 1 ≤ x.w ∧ x.w ≤ 16 ∧ 0 ≤ x.s ∧ x.s ≤ 1099511627776) : Rep (mput m x.f x) (setT x L) := by
  refine ⟨h.ok.set hx, ?_⟩
  rw [mput_set_perm (by rw [h.get]; exact Option.isSome_iff_ne_none.2 hi) h.uniq]
  have := h.perm.map (fun p : Int × Tg => if p.1 = x.f then (x.f, x) else p)
  refine this.trans (.of_eq ?_)
  unfold setT
  rw [List.map_map, List.map_map]
  refine List.map_congr_left fun t _ => ?_
  show (if t.f = x.f then (x.f, x) else (t.f, t)) = ((if t.f = x.f then x else t).f, if t.f = x.f then x else t)
  by_cases h : t.f = x.f
  · rw [if_pos h, if_pos h]
  · rw [if_neg h, if_neg h]
theorem Rep.ins (h : Rep m L) {x : Tg} (hn : fget L x.f = none) (hx : 0 ≤ x.f ∧ x.f < 32 ∧ 1 ≤ x.w ∧ x.w ≤ 16 ∧ 0 ≤ x.s ∧ x.s ≤ 1099511627776) : Rep (mput m x.f x) (insT x L) := by
  refine ⟨h.ok.ins hx hn, ?_⟩
  have hi : midx m x.f = none := by
    have := midx_mget m x.f
    rw [h.get, hn] at this
    simpa using this
  rw [mput_new x.f x m hi]
  have h1 : (m ++ [(x.f, x)]).Perm ((x.f, x) :: m) := List.perm_append_comm
  have h2 := (perm_insT x L).map pairT
  exact h1.trans ((h.perm.cons _).trans h2.symm)
theorem mdel_filter (hu : Uniq m) (k : Int) : mdel m k = m.filter (fun p => !(p.1 == k)) := by
  induction m with
  | nil => rfl
  | cons p m ih =>
    obtain ⟨k0, v0⟩ := p
    unfold Uniq at hu
    rw [List.map_cons, List.nodup_cons] at hu
    unfold mdel
    by_cases hk : k = k0
    · subst hk
      rw [if_pos rfl, List.filter_cons_of_neg (by simp)]
      symm
      rw [List.filter_eq_self]
      intro p hp
      have : p.1 ≠ k := fun e => hu.1 (List.mem_map.2 ⟨p, hp, e⟩)
      simpa using this
    · rw [if_neg hk, List.filter_cons_of_pos (by simpa using Ne.symm hk), ih hu.2]
theorem Rep.del (h : Rep m L) (k : Int) : Rep (mdel m k) (delT k L) := by
  refine ⟨h.ok.del k, ?_⟩
  rw [mdel_filter h.uniq]
  refine (h.perm.filter _).trans (.of_eq ?_)
  unfold delT
  rw [List.filter_map]
  rfl
theorem Rep.start : Rep [] [] := ⟨⟨.nil, by simp⟩, .refl _⟩
/-- Every tag turned in the same way. -/
theorem Rep.map (h : Rep m L) (g : Tg → Tg) (hg : ∀ t, (g t).f = t.f) (hok : LOk (L.map g)) : Rep (m.map fun p => (p.1, g p.2)) (L.map g) := by
  refine ⟨hok, ?_⟩
  refine (h.perm.map _).trans (.of_eq ?_)
  rw [List.map_map, List.map_map]
  refine List.map_congr_left fun t _ => ?_
  simp only [Function.comp, pairT, hg]
end
end Go.Proofs.YtjpahfkchhnpoaaGreat

/- The error-free reference, plain: the state, its operations. -/
namespace Go.Proofs.YtjpahfkchhnpoaaGreat
open Go.RowKit
open SP


/-- The state of a reference. -/
structure St where
  L : List Tg
  old : Int → Int
  tm : Int
  aw : Int

/-- The index of the first tag with the least start tag. -/
def leastG (L : List Tg) : List Tg → Nat → Nat → Nat
  | [], _, best => best
  | t :: l, i, best => leastG L l (i + 1) (if t.s < (L.getD best ⟨0, 0, 0⟩).s then i else best)
def leastN (L : List Tg) : Nat := leastG L L 0 0
def lst (L : List Tg) : Tg := L.getD (leastN L) ⟨0, 0, 0⟩

theorem leastG_facts (L : List Tg) : ∀ (l : List Tg) (i best : Nat), l = L.drop i → best < L.length → (∀ j, j < i → (L.getD best ⟨0, 0, 0⟩).s ≤ (L.getD j ⟨0, 0, 0⟩).s) →
    leastG L l i best < L.length ∧ ∀ j, j < L.length → (L.getD (leastG L l i best) ⟨0, 0, 0⟩).s ≤ (L.getD j ⟨0, 0, 0⟩).s
  | [], i, best, h, hb, hm => by
    have : L.length ≤ i := by
      have := congrArg List.length h
      rw [List.length_drop] at this
      simp at this
      omega
    exact ⟨hb, fun j hj => hm j (by omega)⟩
  | t :: l, i, best, h, hb, hm => by
    have hi : i < L.length := by
      have := congrArg List.length h
      rw [List.length_drop] at this
      simp at this
      omega
    have hL : L.getD i ⟨0, 0, 0⟩ = t ∧ l = L.drop (i + 1) := by
      rw [List.drop_eq_getElem_cons hi] at h
      rw [List.getD_eq_getElem?_getD, List.getElem?_eq_getElem hi]
      simp only [List.cons.injEq] at h
      exact ⟨h.1.symm, h.2⟩
    unfold leastG
    refine leastG_facts L l (i + 1) _ hL.2 (by split <;> omega) fun j hj => ?_
    split
    · rename_i hc
      rw [hL.1]
      by_cases hji : j < i
      · have := hm j hji; omega
      · have : j = i := by omega
        subst this
        rw [hL.1]
        exact Int.le_refl _
    · rename_i hc
      by_cases hji : j < i
      · exact hm j hji
      · have : j = i := by omega
        subst this
        rw [hL.1]
        omega
theorem leastN_lt {L : List Tg} (h : L ≠ []) : leastN L < L.length :=
  (leastG_facts L L 0 0 rfl (List.length_pos_iff.2 h) (fun j hj => by omega)).1
theorem lst_mem {L : List Tg} (h : L ≠ []) : lst L ∈ L := by
  unfold lst
  rw [List.getD_eq_getElem?_getD, List.getElem?_eq_getElem (leastN_lt h)]
  exact List.getElem_mem _
theorem lst_min {L : List Tg} {t : Tg} (h : t ∈ L) : (lst L).s ≤ t.s := by
  have hne : L ≠ [] := List.ne_nil_of_mem h
  obtain ⟨j, hj⟩ := List.getElem?_of_mem h
  have := (leastG_facts L L 0 0 rfl (List.length_pos_iff.2 hne) (fun j hj => by omega)).2 j (List.getElem?_eq_some_iff.1 hj).1
  rw [List.getD_eq_getElem?_getD (i := j), hj] at this
  exact this

end Go.Proofs.YtjpahfkchhnpoaaGreat

/- tags.Cost, tags.Finish, fixed.Add. -/
namespace Go.Proofs.YtjpahfkchhnpoaaGreat
open Go.RowKit
open SP

def unit1 (wt : Int) : Int := Int.tdiv 720720 wt
def cst (len wt : Int) : Int := len * unit1 wt
theorem unit1_range {wt : Int} (h1 : 1 ≤ wt) (h2 : wt ≤ 16) : 45045 ≤ unit1 wt ∧ unit1 wt ≤ 720720 := by
  have : wt = 1 ∨ wt = 2 ∨ wt = 3 ∨ wt = 4 ∨ wt = 5 ∨ wt = 6 ∨ wt = 7 ∨ wt = 8 ∨ wt = 9 ∨ wt = 10 ∨ wt = 11 ∨ wt = 12 ∨ wt = 13 ∨ wt = 14 ∨ wt = 15 ∨ wt = 16 := by omega
  rcases this with rfl | rfl | rfl | rfl | rfl | rfl | rfl | rfl | rfl | rfl | rfl | rfl | rfl | rfl | rfl | rfl <;> decide
/-- 720720 is a multiple of every weight. -/
theorem unit1_mul {wt : Int} (h1 : 1 ≤ wt) (h2 : wt ≤ 16) : unit1 wt * wt = 720720 := by
  have : wt = 1 ∨ wt = 2 ∨ wt = 3 ∨ wt = 4 ∨ wt = 5 ∨ wt = 6 ∨ wt = 7 ∨ wt = 8 ∨ wt = 9 ∨ wt = 10 ∨ wt = 11 ∨ wt = 12 ∨ wt = 13 ∨ wt = 14 ∨ wt = 15 ∨ wt = 16 := by omega
  rcases this with rfl | rfl | rfl | rfl | rfl | rfl | rfl | rfl | rfl | rfl | rfl | rfl | rfl | rfl | rfl | rfl <;> decide
theorem cst_range {len wt : Int} (h1 : 1 ≤ wt) (h2 : wt ≤ 16) (h3 : 1 ≤ len) (h4 : len ≤ 4096) : 45045 ≤ cst len wt ∧ cst len wt ≤ 2952069120 := by
  obtain ⟨a, b⟩ := unit1_range h1 h2
  unfold cst
  constructor
  · calc (45045 : Int) ≤ unit1 wt := a
      _ = 1 * unit1 wt := (Int.one_mul _).symm
      _ ≤ len * unit1 wt := Int.mul_le_mul_of_nonneg_right h3 (by omega)
  · calc len * unit1 wt ≤ 4096 * 720720 := Int.mul_le_mul h4 b (by omega) (by omega)
      _ = 2952069120 := by decide

def badLW (len wt : Int) : Prop := len < 1 ∨ 4096 < len ∨ wt < 1 ∨ 16 < wt
instance (len wt : Int) : Decidable (badLW len wt) := by unfold badLW; infer_instance
def costF (len wt : Int) : Int × Int := if badLW len wt then (0, 1) else (cst len wt, 0)
def pairV (p : Int × Int) : Value := .tuple #[.int .i64 p.1, .int .i64 p.2]

section
variable {w : World}
theorem weighty_spec (wt : Int) (w : World) : Calls Tryz.prog 154 #[.int .i64 wt] w (IsRet (.bool (decide (1 ≤ wt ∧ wt ≤ 16))) w) := by
  by_cases h1 : wt < 1
  · have : decide (1 ≤ wt ∧ wt ≤ 16) = false := by simp; omega
    rw [this]
    go_enter Tryz.func154, Tryz.ntmps154
    go_wp2
    go_ret
    exact ⟨rfl, rfl⟩
  · by_cases h2 : wt ≤ 16
    · have : decide (1 ≤ wt ∧ wt ≤ 16) = true := by simp; omega
      rw [this]
      go_enter Tryz.func154, Tryz.ntmps154
      go_wp2
      go_ret
      exact ⟨rfl, rfl⟩
    · have : decide (1 ≤ wt ∧ wt ≤ 16) = false := by simp; omega
      rw [this]
      go_enter Tryz.func154, Tryz.ntmps154
      go_wp2
      go_ret
      exact ⟨rfl, rfl⟩

set_option maxHeartbeats 800000 in
theorem cost_spec (len wt : Int) (w : World) : Calls Tryz.prog 137 #[.int .i64 len, .int .i64 wt] w (IsRet (pairV (costF len wt)) w) := by
  have hw := weighty_spec wt w
  by_cases h : badLW len wt
  · have e : costF len wt = (0, 1) := if_pos h
    rw [e]; clear e
    by_cases h1 : len < 1
    · go_enter Tryz.func137, Tryz.ntmps137
      go_wp2
      go_ret2
      exact ⟨rfl, rfl⟩
    · by_cases h2 : 4096 < len
      · go_enter Tryz.func137, Tryz.ntmps137
        go_wp2
        go_ret2
        exact ⟨rfl, rfl⟩
      · have hd : decide (1 ≤ wt ∧ wt ≤ 16) = false := by unfold badLW at h; simp; omega
        rw [hd] at hw
        clear h hd
        go_enter Tryz.func137, Tryz.ntmps137
        go_wp2_with fail
        refine hw.mono ?_
        rintro e1 w1 ⟨rfl, rfl⟩
        go_wp2
        go_ret2
        exact ⟨rfl, rfl⟩
  · have e : costF len wt = (cst len wt, 0) := if_neg h
    rw [e]; clear e
    have h' : 1 ≤ len ∧ len ≤ 4096 ∧ 1 ≤ wt ∧ wt ≤ 16 := by unfold badLW at h; omega
    have hd : decide (1 ≤ wt ∧ wt ≤ 16) = true := by simp; omega
    rw [hd] at hw
    clear h hd
    obtain ⟨h1, h2, h3, h4⟩ := h'
    obtain ⟨c1, c2⟩ := cst_range h3 h4 h1 h2
    obtain ⟨u1, u2⟩ := unit1_range h3 h4
    have e1 : Int.tdiv 720720 wt = unit1 wt := rfl
    have e2 : len * unit1 wt = cst len wt := rfl
    generalize unit1 wt = u at *
    generalize cst len wt = z at *
    have hz : ¬ wt = 0 := by omega
    go_enter Tryz.func137, Tryz.ntmps137
    go_wp2_with fail
    refine hw.mono ?_
    rintro e1 w1 ⟨rfl, rfl⟩
    go_wp2
    go_ret2
    exact ⟨rfl, rfl⟩

set_option maxHeartbeats 800000 in
theorem add_spec (x y : Int) (h1 : -1000000000000000000 ≤ x) (h2 : x ≤ 1000000000000000000) (h3 : -1000000000000000000 ≤ y) (h4 : y ≤ 1000000000000000000) (w : World) :
    Calls Tryz.prog 138 #[.int .i64 x, .int .i64 y] w (IsRet (pairV (x + y, 0)) w) := by
  by_cases h : 0 < y
  · have h5 : x < x + y := by omega
    obtain ⟨z, hz⟩ : ∃ z, x + y = z := ⟨_, rfl⟩
    rw [hz] at h5 ⊢
    go_enter Tryz.func138, Tryz.ntmps138
    go_wp2
    go_ret2
    exact ⟨rfl, rfl⟩
  · have h5 : ¬ x < x + y := by omega
    obtain ⟨z, hz⟩ : ∃ z, x + y = z := ⟨_, rfl⟩
    rw [hz] at h5 ⊢
    go_enter Tryz.func138, Tryz.ntmps138
    go_wp2
    go_ret2
    exact ⟨rfl, rfl⟩

def finF (was len wt : Int) : Int × Int := if badLW len wt ∨ was < 0 ∨ 1099511627776 < was then (0, 1) else if 1099511627776 < was + cst len wt then (0, 2) else (was + cst len wt, 0)

set_option maxHeartbeats 1600000 in
theorem finish_spec (was len wt : Int) (w : World) : Calls Tryz.prog 117 #[.int .i64 was, .int .i64 len, .int .i64 wt] w (IsRet (pairV (finF was len wt)) w) := by
  have hc := cost_spec len wt w
  by_cases h : badLW len wt
  · have e : finF was len wt = (0, 1) := if_pos (.inl h)
    have e' : costF len wt = (0, 1) := if_pos h
    rw [e]; rw [e'] at hc; clear e e' h
    unfold pairV at *
    go_enter Tryz.func117, Tryz.ntmps117
    go_wp2_with fail
    refine hc.mono ?_
    rintro e1 w1 ⟨rfl, rfl⟩
    go_wp2
    go_ret2
    exact ⟨rfl, rfl⟩
  · have e' : costF len wt = (cst len wt, 0) := if_neg h
    rw [e'] at hc; clear e'
    have h' : 1 ≤ len ∧ len ≤ 4096 ∧ 1 ≤ wt ∧ wt ≤ 16 := by unfold badLW at h; omega
    obtain ⟨c1, c2⟩ := cst_range h'.2.2.1 h'.2.2.2 h'.1 h'.2.1
    unfold finF
    generalize cst len wt = z at *
    by_cases h1 : was < 0
    · rw [if_pos (.inr (.inl h1))]
      clear h h'
      unfold pairV at *
      go_enter Tryz.func117, Tryz.ntmps117
      go_wp2_with fail
      refine hc.mono ?_
      rintro e1 w1 ⟨rfl, rfl⟩
      go_wp2
      go_ret2
      exact ⟨rfl, rfl⟩
    · by_cases h2 : 1099511627776 < was
      · rw [if_pos (.inr (.inr h2))]
        clear h h'
        unfold pairV at *
        go_enter Tryz.func117, Tryz.ntmps117
        go_wp2_with fail
        refine hc.mono ?_
        rintro e1 w1 ⟨rfl, rfl⟩
        go_wp2
        go_ret2
        exact ⟨rfl, rfl⟩
      · rw [if_neg (by rintro (h3 | h3 | h3); exact h h3; exact h1 h3; exact h2 h3)]
        clear h h'
        have ha := add_spec was z (by omega) (by omega) (by omega) (by omega) w
        by_cases h5 : 1099511627776 < was + z
        · rw [if_pos h5]
          generalize was + z = s at *
          unfold pairV at *
          go_enter Tryz.func117, Tryz.ntmps117
          go_wp2_with fail
          refine hc.mono ?_
          rintro e1 w1 ⟨rfl, rfl⟩
          go_wp2_with fail
          refine ha.mono ?_
          rintro e1 w1 ⟨rfl, rfl⟩
          go_wp2
          go_ret2
          exact ⟨rfl, rfl⟩
        · rw [if_neg h5]
          generalize was + z = s at *
          unfold pairV at *
          go_enter Tryz.func117, Tryz.ntmps117
          go_wp2_with fail
          refine hc.mono ?_
          rintro e1 w1 ⟨rfl, rfl⟩
          go_wp2_with fail
          refine ha.mono ?_
          rintro e1 w1 ⟨rfl, rfl⟩
          go_wp2
          go_ret2
          exact ⟨rfl, rfl⟩
end
end Go.Proofs.YtjpahfkchhnpoaaGreat

/- The error-free reference, plain: its operations and what they keep. -/
namespace Go.Proofs.YtjpahfkchhnpoaaGreat
open Go.RowKit
open SP

structure StOk (S : St) : Prop where
  ok : LOk S.L
  old : ∀ f, 0 ≤ S.old f ∧ S.old f ≤ 1099511627776
  tm : 0 ≤ S.tm ∧ S.tm ≤ 1099511627776

def joinE (S : St) (f w : Int) : Int := if f < 0 ∨ 32 ≤ f ∨ w < 1 ∨ 16 < w then 1 else if (fget S.L f).isSome then 7 else 0
def joinS (S : St) (f w : Int) : St := { S with L := insT ⟨f, w, max S.tm (S.old f)⟩ S.L, old := fun g => if g = f then 0 else S.old g }
def leaveS (S : St) (f s : Int) : St := if delT f S.L = [] then ⟨[], fun _ => 0, 0, S.aw⟩ else { S with L := delT f S.L, old := fun g => if g = f then s else S.old g }
def subS (S : St) (by_ : Int) : St := ⟨S.L.map (fun t => ⟨t.f, t.w, t.s - by_⟩), fun g => max (S.old g - by_) 0, S.tm - by_, S.aw + by_⟩
def chS (S : St) (t : Tg) (nx : Int) : St := { S with L := setT ⟨t.f, t.w, nx⟩ S.L, tm := max S.tm t.s }
def byS (S : St) : Int := min S.tm (lst S.L).s
def rebS (reb : Int) (S : St) : St := if byS S < reb then S else subS S (byS S)
/-- What Charge gives: the code and the state. -/
def chargeR (reb : Int) (S : St) (f len : Int) : Int × St :=
  match fget S.L f with
  | none => (6, S)
  | some t => if (finF t.s len t.w).2 ≠ 0 then ((finF t.s len t.w).2, S) else (0, rebS reb (chS S t (finF t.s len t.w).1))
def leaveR (S : St) (f : Int) : Int × St :=
  match fget S.L f with
  | none => (6, S)
  | some t => (0, leaveS S f t.s)
def joinR (S : St) (f w : Int) : Int × St := (joinE S f w, if joinE S f w = 0 then joinS S f w else S)
/-- What Select gives. -/
def selT (L : List Tg) : Int × Int := if L = [] then (0, 5) else ((lst L).f, 0)

section
variable {S : St}
theorem StOk.start : StOk ⟨[], fun _ => 0, 0, 0⟩ := ⟨⟨.nil, by simp⟩, fun f => by simp, by simp⟩
theorem StOk.join (h : StOk S) {f w : Int} (he : joinE S f w = 0) : StOk (joinS S f w) ∧ fget S.L f = none ∧ 0 ≤ f ∧ f < 32 ∧ 1 ≤ w ∧ w ≤ 16 := by
  have hb : ¬ (f < 0 ∨ 32 ≤ f ∨ w < 1 ∨ 16 < w) := fun hb => by unfold joinE at he; rw [if_pos hb] at he; cases he
  have hn : fget S.L f = none := by
    unfold joinE at he
    rw [if_neg hb] at he
    cases hf : fget S.L f with
    | none => rfl
    | some t => rw [hf] at he; simp at he
  have h1 := h.tm
  have h2 := h.old f
  refine ⟨⟨h.ok.ins (x := ⟨f, w, max S.tm (S.old f)⟩) ⟨by simp only; omega, by simp only; omega, by simp only; omega, by simp only; omega, by simp only; omega, by simp only; omega⟩ hn, fun g => ?_, h.tm⟩, hn, by omega⟩
  show 0 ≤ (if g = f then 0 else S.old g) ∧ (if g = f then 0 else S.old g) ≤ _
  split
  · simp
  · exact h.old g
theorem StOk.leave (h : StOk S) {f : Int} {t : Tg} (ht : fget S.L f = some t) : StOk (leaveS S f t.s) := by
  obtain ⟨h1, h2⟩ := fget_some ht
  have hr := h.ok.rng t h1
  unfold leaveS
  split
  · exact ⟨⟨.nil, by simp⟩, fun f => by simp, by simp⟩
  · refine ⟨h.ok.del f, fun g => ?_, h.tm⟩
    show 0 ≤ (if g = f then t.s else S.old g) ∧ (if g = f then t.s else S.old g) ≤ _
    split
    · omega
    · exact h.old g
theorem StOk.ch (h : StOk S) {t : Tg} (ht : t ∈ S.L) {nx : Int} (hn : 0 ≤ nx ∧ nx ≤ 1099511627776) : StOk (chS S t nx) := by
  have hr := h.ok.rng t ht
  have h1 := h.tm
  refine ⟨h.ok.set (x := ⟨t.f, t.w, nx⟩) ⟨hr.1, hr.2.1, hr.2.2.1, hr.2.2.2.1, hn.1, hn.2⟩, h.old, ?_⟩
  show 0 ≤ max S.tm t.s ∧ max S.tm t.s ≤ _
  omega
theorem byS_rng (h : StOk S) (hne : S.L ≠ []) : 0 ≤ byS S ∧ byS S ≤ S.tm ∧ ∀ t ∈ S.L, byS S ≤ t.s := by
  have h1 := h.tm
  have h2 := h.ok.rng _ (lst_mem hne)
  unfold byS
  refine ⟨by omega, by omega, fun t ht => ?_⟩
  have := lst_min ht
  omega
theorem StOk.sub (h : StOk S) {by_ : Int} (h0 : 0 ≤ by_) (h1 : by_ ≤ S.tm) (h2 : ∀ t ∈ S.L, by_ ≤ t.s) : StOk (subS S by_) := by
  have h3 := h.tm
  refine ⟨⟨?_, fun t ht => ?_⟩, fun f => ?_, ?_⟩
  · show (S.L.map _).Pairwise _
    rw [List.pairwise_map]; exact h.ok.asc
  · obtain ⟨u, hu, rfl⟩ := List.mem_map.1 ht
    have := h.ok.rng u hu
    have := h2 u hu
    simp only
    omega
  · have := h.old f
    show 0 ≤ max (S.old f - by_) 0 ∧ max (S.old f - by_) 0 ≤ _
    omega
  · show 0 ≤ S.tm - by_ ∧ S.tm - by_ ≤ _
    omega
theorem setT_ne {x : Tg} {L : List Tg} (h : L ≠ []) : setT x L ≠ [] := by
  unfold setT
  simpa using h
theorem StOk.reb (h : StOk S) (hne : S.L ≠ []) (r : Int) : StOk (rebS r S) := by
  unfold rebS
  split
  · exact h
  · obtain ⟨h1, h2, h3⟩ := byS_rng h hne
    exact h.sub h1 h2 h3
theorem finF_ok {s len w : Int} (h : (finF s len w).2 = 0) : (finF s len w).1 = s + cst len w ∧ ¬ badLW len w ∧ 0 ≤ s ∧ s + cst len w ≤ 1099511627776 := by
  unfold finF at *
  split at h
  · cases h
  · rename_i h1
    split at h
    · cases h
    · rename_i h2
      rw [if_neg h1, if_neg h2]
      exact ⟨rfl, fun hb => h1 (.inl hb), by omega, by omega⟩

/-! ### The laws -/
/-- After i rounds: no tag is less than the time, nor greater by more than the cost of one packet. -/
structure TInv (i : Nat) (S : St) : Prop where
  ok : StOk S
  tm : S.tm ≤ i * 2952069120
  act : ∀ t ∈ S.L, S.tm ≤ t.s ∧ t.s ≤ S.tm + 2952069120
  old : ∀ f, S.old f ≤ S.tm + 2952069120

theorem TInv.start : TInv 0 ⟨[], fun _ => 0, 0, 0⟩ := ⟨StOk.start, by simp, by simp, fun f => by simp⟩
theorem TInv.next {i : Nat} (h : TInv i S) : TInv (i + 1) S := ⟨h.ok, by have := h.tm; push_cast; omega, h.act, h.old⟩
theorem TInv.joinS {i : Nat} (h : TInv i S) {f w : Int} (he : joinE S f w = 0) : TInv i (joinS S f w) := by
  have h1 := h.old f
  have h2 := h.ok.tm
  refine ⟨(h.ok.join he).1, h.tm, fun t ht => ?_, fun g => ?_⟩
  · rcases mem_insT.1 ht with rfl | ht
    · show S.tm ≤ max S.tm (S.old f) ∧ max S.tm (S.old f) ≤ S.tm + _
      omega
    · exact h.act t ht
  · show (if g = f then 0 else S.old g) ≤ S.tm + _
    split
    · omega
    · exact h.old g
theorem TInv.join {i : Nat} (h : TInv i S) (f w : Int) : TInv i (joinR S f w).2 := by
  unfold joinR
  split
  · exact h.joinS ‹_›
  · exact h
theorem TInv.leave {i : Nat} (h : TInv i S) (f : Int) : TInv i (leaveR S f).2 := by
  unfold leaveR
  split
  · exact h
  · rename_i t ht
    obtain ⟨h1, h2⟩ := fget_some ht
    have hok := h.ok.leave ht
    have ha := h.act t h1
    show TInv i (leaveS S f t.s)
    unfold leaveS at *
    split
    · rename_i he
      rw [if_pos he] at hok
      exact ⟨hok, by show (0 : Int) ≤ _; omega, by simp, fun g => by show (0 : Int) ≤ 0 + _; omega⟩
    · rename_i he
      rw [if_neg he] at hok
      refine ⟨hok, h.tm, fun t ht => h.act t (mem_delT.1 ht).1, fun g => ?_⟩
      show (if g = f then t.s else S.old g) ≤ S.tm + _
      split
      · omega
      · exact h.old g
theorem TInv.by_ {i : Nat} (h : TInv i S) (hne : S.L ≠ []) : byS S = S.tm := by
  have := h.act _ (lst_mem hne)
  unfold byS; omega
theorem TInv.sub {i : Nat} (h : TInv i S) (hne : S.L ≠ []) : TInv i (subS S S.tm) := by
  have h1 := byS_rng h.ok hne
  rw [h.by_ hne] at h1
  refine ⟨h.ok.sub h1.1 h1.2.1 h1.2.2, ?_, fun t ht => ?_, fun f => ?_⟩
  · show S.tm - S.tm ≤ _; omega
  · obtain ⟨u, hu, rfl⟩ := List.mem_map.1 ht
    have := h.act u hu
    show S.tm - S.tm ≤ u.s - S.tm ∧ u.s - S.tm ≤ S.tm - S.tm + _
    omega
  · have := h.old f
    show max (S.old f - S.tm) 0 ≤ S.tm - S.tm + _
    omega
theorem TInv.reb {i : Nat} (h : TInv i S) (hne : S.L ≠ []) (r : Int) : TInv i (rebS r S) := by
  unfold rebS
  split
  · exact h
  · rw [h.by_ hne]; exact h.sub hne
theorem TInv.ch {i : Nat} (h : TInv i S) (hi : i ≤ 300) (hne : S.L ≠ []) {len : Int} (h1 : 1 ≤ len) (h2 : len ≤ 4096) :
    finF (lst S.L).s len (lst S.L).w = ((lst S.L).s + cst len (lst S.L).w, 0) ∧ TInv (i + 1) (chS S (lst S.L) ((lst S.L).s + cst len (lst S.L).w)) ∧ max S.tm (lst S.L).s = (lst S.L).s := by
  have hm := lst_mem hne
  have hmin : ∀ t ∈ S.L, (lst S.L).s ≤ t.s := fun t ht => lst_min ht
  generalize lst S.L = t at *
  have hr := h.ok.ok.rng t hm
  have ha := h.act t hm
  have ht := h.tm
  obtain ⟨c1, c2⟩ := cst_range hr.2.2.1 hr.2.2.2.1 h1 h2
  have hfin : finF t.s len t.w = (t.s + cst len t.w, 0) := by
    unfold finF
    rw [if_neg (by unfold badLW; omega), if_neg (by omega)]
  have hmx : max S.tm t.s = t.s := by omega
  refine ⟨hfin, ⟨h.ok.ch hm (by omega), ?_, fun u hu => ?_, fun f => ?_⟩, hmx⟩
  · show max S.tm t.s ≤ _; push_cast; omega
  · show max S.tm t.s ≤ u.s ∧ u.s ≤ max S.tm t.s + _
    rw [hmx]
    rcases mem_setT hu with rfl | ⟨hu, _⟩
    · simp only; omega
    · have := hmin u hu
      have := h.act u hu
      omega
  · have := h.old f
    show S.old f ≤ max S.tm t.s + _
    omega
/-- The selected flow is charged. -/
theorem TInv.charge {i : Nat} (h : TInv i S) (hi : i ≤ 300) (hne : S.L ≠ []) {len : Int} (h1 : 1 ≤ len) (h2 : len ≤ 4096) (r : Int) :
    chargeR r S (lst S.L).f len = (0, rebS r (chS S (lst S.L) ((lst S.L).s + cst len (lst S.L).w))) ∧ TInv (i + 1) (rebS r (chS S (lst S.L) ((lst S.L).s + cst len (lst S.L).w))) := by
  obtain ⟨hf, hT, _⟩ := h.ch hi hne h1 h2
  refine ⟨?_, hT.reb (setT_ne hne) r⟩
  unfold chargeR
  rw [fget_mem h.ok.ok (lst_mem hne)]
  simp only [hf]
  rw [if_neg (by simp)]
end
end Go.Proofs.YtjpahfkchhnpoaaGreat

/- Lines of a ledger in a list that ascends, and how a map represents them. -/
namespace Go.Proofs.YtjpahfkchhnpoaaGreat
open Go.RowKit
open SP

/-- A list of active flows, ascending. -/
structure NOk (L : List Tg) : Prop where
  asc : L.Pairwise (fun a b => a.f < b.f)
  rng : ∀ t ∈ L, 0 ≤ t.f ∧ t.f < 32 ∧ 1 ≤ t.w ∧ t.w ≤ 16

theorem fget_memN {L : List Tg} (h : NOk L) {t : Tg} (ht : t ∈ L) : fget L t.f = some t := by
  have h1 := h.asc
  clear h
  induction L with
  | nil => simp at ht
  | cons a L ih =>
    rw [List.pairwise_cons] at h1
    unfold fget
    rw [List.find?_cons]
    rcases List.mem_cons.1 ht with rfl | ht
    · simp
    · have := h1.1 t ht
      have hne : (a.f == t.f) = false := by simpa using Int.ne_of_lt this
      rw [hne]
      exact ih ht h1.2
theorem NOk.inj {L : List Tg} (h : NOk L) {a b : Tg} (ha : a ∈ L) (hb : b ∈ L) (e : a.f = b.f) : a = b := by
  have h1 := fget_memN h ha
  have h2 := fget_memN h hb
  rw [e, h2] at h1
  simpa using h1.symm

theorem NOk.ins {L : List Tg} (h : NOk L) {x : Tg} (hx : 0 ≤ x.f ∧ x.f < 32 ∧ 1 ≤ x.w ∧ x.w ≤ 16) (hn : fget L x.f = none) : NOk (insT x L) := by
  have hne := fget_none.1 hn
  refine ⟨?_, fun t ht => ?_⟩
  · have h1 := h.asc
    clear h hn
    induction L with
    | nil => simp [insT]
    | cons a L ih =>
      rw [List.pairwise_cons] at h1
      unfold insT
      split
      · rename_i hlt
        rw [List.pairwise_cons]
        refine ⟨fun t ht => ?_, ih (fun t ht => hne t (by simp [ht])) h1.2⟩
        rcases mem_insT.1 ht with rfl | ht
        · exact hlt
        · exact h1.1 t ht
      · rename_i hlt
        have ha := hne a (by simp)
        rw [List.pairwise_cons]
        refine ⟨fun t ht => ?_, List.pairwise_cons.2 h1⟩
        rcases List.mem_cons.1 ht with rfl | ht
        · omega
        · have := h1.1 t ht; omega
  · rcases mem_insT.1 ht with rfl | ht
    · exact hx
    · exact h.rng t ht
theorem NOk.del {L : List Tg} (h : NOk L) (k : Int) : NOk (delT k L) :=
  ⟨h.asc.sublist List.filter_sublist, fun t ht => h.rng t (List.mem_filter.1 ht).1⟩
theorem NOk.set {L : List Tg} (h : NOk L) {x : Tg} (hx : 0 ≤ x.f ∧ x.f < 32 ∧ 1 ≤ x.w ∧ x.w ≤ 16) : NOk (setT x L) := by
  refine ⟨?_, fun t ht => ?_⟩
  · rw [asc_iff, setT_f, ← asc_iff]; exact h.asc
  · rcases mem_setT ht with rfl | ⟨ht, _⟩
    · exact hx
    · exact h.rng t ht
theorem NOk.len {L : List Tg} (h : NOk L) : L.length ≤ 32 := by
  have key : ∀ (l : List Int) (n : Int), l.Pairwise (· < ·) → (∀ x ∈ l, n ≤ x ∧ x < 32) → n ≤ 32 → (l.length : Int) ≤ 32 - n := by
    intro l
    induction l with
    | nil => intro n _ _ h; simp; omega
    | cons a l ih =>
      intro n hp hr hn
      rw [List.pairwise_cons] at hp
      have ha := hr a (by simp)
      have := ih (a + 1) hp.2 (fun x hx => ⟨by have := hp.1 x hx; omega, (hr x (by simp [hx])).2⟩) (by omega)
      rw [List.length_cons]
      omega
  have := key (L.map (·.f)) 0 (asc_iff.1 h.asc) (fun x hx => by
    obtain ⟨t, ht, rfl⟩ := List.mem_map.1 hx
    exact ⟨(h.rng t ht).1, (h.rng t ht).2.1⟩) (by omega)
  rw [List.length_map] at this
  omega

/-- The map holds the active flows, in whatever order. -/
structure RepN (m : List (Int × Tg)) (L : List Tg) : Prop where
  ok : NOk L
  perm : m.Perm (L.map pairT)

section
variable {m : List (Int × Tg)} {L : List Tg}
theorem RepN.keys (h : RepN m L) : (m.map (·.1)).Perm (L.map (·.f)) := by
  have := h.perm.map (·.1)
  rw [List.map_map] at this
  exact this
theorem RepN.uniq (h : RepN m L) : Uniq m := by
  unfold Uniq
  rw [h.keys.nodup_iff]
  exact (asc_iff.1 h.ok.asc).imp Int.ne_of_lt
theorem RepN.keyOk (h : RepN m L) : KeyOk m := by
  refine ⟨h.uniq, fun x hx => ?_⟩
  have := h.keys.mem_iff.1 (List.mem_map.2 ⟨x, hx, rfl⟩)
  obtain ⟨t, ht, he⟩ := List.mem_map.1 this
  have := h.ok.rng t ht
  omega
theorem RepN.len (h : RepN m L) : m.length = L.length := by rw [h.perm.length_eq, List.length_map]
theorem RepN.get (h : RepN m L) (k : Int) : mget m k = fget L k := by
  cases hf : fget L k with
  | none =>
    rw [mget_none]
    intro hk
    obtain ⟨t, ht, he⟩ := List.mem_map.1 (h.keys.mem_iff.1 hk)
    exact fget_none.1 hf t ht he
  | some t =>
    obtain ⟨h1, h2⟩ := fget_some hf
    have : pairT t ∈ m := h.perm.mem_iff.2 (List.mem_map.2 ⟨t, h1, rfl⟩)
    have := mget_mem h.uniq this
    rw [← h2]; exact this
theorem RepN.sort (h : RepN m L) : sortK m = L.map (·.f) := by
  unfold sortK
  refine List.Perm.eq_of_pairwise (le := fun a b => a ≤ b) (fun a b _ _ h1 h2 => Int.le_antisymm h1 h2) ?_ ?_ ((List.mergeSort_perm _ _).trans h.keys)
  · have := List.pairwise_mergeSort (le := leI) (fun a b c h1 h2 => by simp [leI] at *; omega) (fun a b => by simp [leI]; omega) (m.map (·.1))
    exact this.imp (fun h => by simpa [leI] using h)
  · exact (asc_iff.1 h.ok.asc).imp Int.le_of_lt
theorem RepN.set (h : RepN m L) {x : Tg} (hi : fget L x.f ≠ none) (hx : 0 ≤ x.f ∧ x.f < 32 ∧ 1 ≤ x.w ∧ x.w ≤ 16) : RepN (mput m x.f x) (setT x L) := by
  refine ⟨h.ok.set hx, ?_⟩
  rw [mput_set_perm (by rw [h.get]; exact Option.isSome_iff_ne_none.2 hi) h.uniq]
  have := h.perm.map (fun p : Int × Tg => if p.1 = x.f then (x.f, x) else p)
  refine this.trans (.of_eq ?_)
  unfold setT
  rw [List.map_map, List.map_map]
  refine List.map_congr_left fun t _ => ?_
  show (if t.f = x.f then (x.f, x) else (t.f, t)) = ((if t.f = x.f then x else t).f, if t.f = x.f then x else t)
  by_cases h : t.f = x.f
  · rw [if_pos h, if_pos h]
  · rw [if_neg h, if_neg h]
theorem RepN.ins (h : RepN m L) {x : Tg} (hn : fget L x.f = none) (hx : 0 ≤ x.f ∧ x.f < 32 ∧ 1 ≤ x.w ∧ x.w ≤ 16) : RepN (mput m x.f x) (insT x L) := by
  refine ⟨h.ok.ins hx hn, ?_⟩
  have hi : midx m x.f = none := by
    have := midx_mget m x.f
    rw [h.get, hn] at this
    simpa using this
  rw [mput_new x.f x m hi]
  have h1 : (m ++ [(x.f, x)]).Perm ((x.f, x) :: m) := List.perm_append_comm
  have h2 := (perm_insT x L).map pairT
  exact h1.trans ((h.perm.cons _).trans h2.symm)
theorem RepN.del (h : RepN m L) (k : Int) : RepN (mdel m k) (delT k L) := by
  refine ⟨h.ok.del k, ?_⟩
  rw [mdel_filter h.uniq]
  refine (h.perm.filter _).trans (.of_eq ?_)
  unfold delT
  rw [List.filter_map]
  rfl
theorem RepN.start : RepN [] [] := ⟨⟨.nil, by simp⟩, .refl _⟩
/-- Every tag turned in the same way. -/
theorem RepN.map (h : RepN m L) (g : Tg → Tg) (hg : ∀ t, (g t).f = t.f) (hok : NOk (L.map g)) : RepN (m.map fun p => (p.1, g p.2)) (L.map g) := by
  refine ⟨hok, ?_⟩
  refine (h.perm.map _).trans (.of_eq ?_)
  rw [List.map_map, List.map_map]
  refine List.map_congr_left fun t _ => ?_
  simp only [Function.comp, pairT, hg]
end
end Go.Proofs.YtjpahfkchhnpoaaGreat

/- A ledger of lags, plain: the distribution of an amount by weights, and the operations. -/
namespace Go.Proofs.YtjpahfkchhnpoaaGreat

def ab (x : Int) : Int := max x (-x)
def sumI (l : List Int) : Int := l.foldr (· + ·) 0
theorem sumI_nil : sumI [] = 0 := rfl
theorem sumI_cons (x : Int) (l : List Int) : sumI (x :: l) = x + sumI l := rfl
theorem sumI_append : ∀ l m : List Int, sumI (l ++ m) = sumI l + sumI m
  | [], m => by rw [List.nil_append, sumI_nil]; omega
  | x :: l, m => by rw [List.cons_append, sumI_cons, sumI_cons, sumI_append l m]; omega

/-! ### Shares by weights, truncated toward zero; what is left goes to the first -/
def truncs (a T : Int) (W : List Int) : List Int := W.map fun w => (a * w).tdiv T
def addHd (x : Int) : List Int → List Int
  | [] => []
  | q :: l => (q + x) :: l
def lagSplit (a : Int) (W : List Int) : List Int := addHd (a - sumI (truncs a (sumI W) W)) (truncs a (sumI W) W)

theorem addHd_len (x : Int) : ∀ l, (addHd x l).length = l.length
  | [] => rfl
  | _ :: _ => rfl
theorem lagSplit_len (a : Int) (W : List Int) : (lagSplit a W).length = W.length := by
  unfold lagSplit truncs; rw [addHd_len, List.length_map]
theorem lagSplit_sum (a : Int) {W : List Int} (h : W ≠ []) : sumI (lagSplit a W) = a := by
  unfold lagSplit
  obtain ⟨q, l, e⟩ : ∃ q l, truncs a (sumI W) W = q :: l := by
    cases W with
    | nil => exact absurd rfl h
    | cons w W => exact ⟨_, _, rfl⟩
  rw [e, addHd, sumI_cons, sumI_cons]; omega

theorem truncs_bound (a T : Int) (ha : 0 ≤ a) (hT : 0 < T) : ∀ W : List Int, (∀ w ∈ W, 0 ≤ w) → (∀ q ∈ truncs a T W, 0 ≤ q) ∧ sumI (truncs a T W) * T ≤ a * sumI W
  | [], _ => ⟨(by intro q hq; cases hq), (by simp [truncs, sumI])⟩
  | w :: W, hW => by
    obtain ⟨h1, h2⟩ := truncs_bound a T ha hT W fun v hv => hW v (by simp [hv])
    have hw := hW w (by simp)
    have hp : 0 ≤ a * w := Int.mul_nonneg ha hw
    have hq : 0 ≤ (a * w).tdiv T := Int.tdiv_nonneg hp (Int.le_of_lt hT)
    have hm : (a * w).tdiv T * T ≤ a * w := by
      rw [Int.tdiv_eq_ediv_of_nonneg hp]
      exact Int.ediv_mul_le _ (by omega)
    constructor
    · intro q hq'
      rcases List.mem_cons.1 hq' with rfl | h
      · exact hq
      · exact h1 q h
    · show sumI ((a * w).tdiv T :: truncs a T W) * T ≤ a * sumI (w :: W)
      rw [sumI_cons, sumI_cons, Int.add_mul, Int.mul_add]
      omega
theorem truncs_neg (a T : Int) (W : List Int) : truncs (-a) T W = (truncs a T W).map fun q => -q := by
  unfold truncs
  rw [List.map_map]
  refine List.map_congr_left fun w _ => ?_
  show (-a * w).tdiv T = -((a * w).tdiv T)
  rw [Int.neg_mul, Int.neg_tdiv]
theorem sumI_neg : ∀ l : List Int, sumI (l.map fun q => -q) = - sumI l
  | [] => rfl
  | x :: l => by rw [List.map_cons, sumI_cons, sumI_cons, sumI_neg l]; omega
theorem addHd_neg (x : Int) (l : List Int) : addHd (-x) (l.map fun q => -q) = (addHd x l).map fun q => -q := by
  cases l with
  | nil => rfl
  | cons q l =>
    show (-q + -x) :: _ = -(q + x) :: _
    rw [show -q + -x = -(q + x) by omega]
theorem lagSplit_neg (a : Int) (W : List Int) : lagSplit (-a) W = (lagSplit a W).map fun q => -q := by
  unfold lagSplit
  rw [truncs_neg, sumI_neg, show -a - -sumI (truncs a (sumI W) W) = -(a - sumI (truncs a (sumI W) W)) by omega, addHd_neg]
theorem sumI_pos : ∀ {W : List Int}, W ≠ [] → (∀ w ∈ W, 1 ≤ w) → 0 < sumI W
  | [], h, _ => absurd rfl h
  | [w], _, h => by have := h w (by simp); rw [sumI_cons, sumI_nil]; omega
  | w :: v :: W, _, h => by
    have := h w (by simp)
    have := sumI_pos (W := v :: W) (by simp) fun u hu => h u (by simp [hu])
    rw [sumI_cons]; omega
theorem lagSplit_nonneg {a : Int} (ha : 0 ≤ a) {W : List Int} (hW : ∀ w ∈ W, 1 ≤ w) : ∀ q ∈ lagSplit a W, 0 ≤ q := by
  cases W with
  | nil => intro q hq; cases hq
  | cons w0 W0 =>
    have hT := sumI_pos (W := w0 :: W0) (by simp) hW
    generalize hWW : w0 :: W0 = W at *
    obtain ⟨h1, h2⟩ := truncs_bound a (sumI W) ha hT W fun w hw => by have := hW w hw; omega
    have h3 := Int.le_of_mul_le_mul_right h2 hT
    unfold lagSplit
    generalize truncs a (sumI W) W = Q at *
    cases Q with
    | nil => intro q hq; cases hq
    | cons q0 Q0 =>
      intro q hq
      rcases List.mem_cons.1 hq with rfl | h
      · have := h1 q0 (by simp); omega
      · exact h1 q (by simp [h])
theorem sumI_ab_nonneg : ∀ l : List Int, (∀ q ∈ l, 0 ≤ q) → sumI (l.map ab) = sumI l
  | [], _ => rfl
  | x :: l, h => by
    have hx := h x (by simp)
    rw [List.map_cons, sumI_cons, sumI_cons, sumI_ab_nonneg l fun q hq => h q (by simp [hq])]
    unfold ab; omega
theorem ab_neg (x : Int) : ab (-x) = ab x := by unfold ab; omega
theorem lagSplit_abs (a : Int) {W : List Int} (hW : ∀ w ∈ W, 1 ≤ w) : sumI ((lagSplit a W).map ab) ≤ ab a := by
  by_cases hn : W = []
  · subst hn; show (0 : Int) ≤ _; unfold ab; omega
  have key : ∀ b : Int, 0 ≤ b → sumI ((lagSplit b W).map ab) ≤ ab b := by
    intro b hb
    rw [sumI_ab_nonneg _ (lagSplit_nonneg hb hW), lagSplit_sum b hn]; unfold ab; omega
  by_cases ha : 0 ≤ a
  · exact key a ha
  · have := key (-a) (by omega)
    have e := lagSplit_neg (-a) W
    rw [Int.neg_neg] at e
    rw [e, List.map_map, show (ab ∘ fun q => -q) = ab from funext ab_neg]
    rw [ab_neg] at this
    exact this
theorem ab_nonneg (x : Int) : 0 ≤ ab x := by unfold ab; omega
theorem sumI_ab_mem : ∀ {l : List Int} {x : Int}, x ∈ l → ab x ≤ sumI (l.map ab)
  | y :: l, x, h => by
    rw [List.map_cons, sumI_cons]
    have h0 : ∀ l : List Int, 0 ≤ sumI (l.map ab) := fun l => by
      induction l with
      | nil => exact Int.le_refl _
      | cons z l ih => rw [List.map_cons, sumI_cons]; have := ab_nonneg z; omega
    rcases List.mem_cons.1 h with rfl | h
    · have := h0 l; omega
    · have := sumI_ab_mem h; have := ab_nonneg y; omega

/-! ### A ledger -/
def lags (L : List Tg) : List Int := L.map (·.s)
def wts (L : List Tg) : List Int := L.map (·.w)
def sumS (L : List Tg) : Int := sumI (lags L)
def absS (L : List Tg) : Int := sumI ((lags L).map ab)
theorem absS_mem {L : List Tg} {t : Tg} (h : t ∈ L) : ab t.s ≤ absS L := sumI_ab_mem (List.mem_map.2 ⟨t, h, rfl⟩)
theorem absS_nonneg (L : List Tg) : 0 ≤ absS L := by
  unfold absS
  generalize lags L = l
  induction l with
  | nil => exact Int.le_refl _
  | cons z l ih => rw [List.map_cons, sumI_cons]; have := ab_nonneg z; omega
theorem absS_cons (t : Tg) (L : List Tg) : absS (t :: L) = ab t.s + absS L := rfl
theorem sumS_cons (t : Tg) (L : List Tg) : sumS (t :: L) = t.s + sumS L := rfl

/-- The lags with a list of numbers added. -/
def addS : List Tg → List Int → List Tg
  | t :: L, x :: l => ⟨t.f, t.w, t.s + x⟩ :: addS L l
  | L, _ => L
theorem addS_nil (L : List Tg) : addS L [] = L := by cases L <;> rfl
theorem addS_cons (t : Tg) (L : List Tg) (x : Int) (l : List Int) : addS (t :: L) (x :: l) = ⟨t.f, t.w, t.s + x⟩ :: addS L l := rfl
theorem addS_len : ∀ (L : List Tg) (l : List Int), (addS L l).length = L.length
  | [], _ => by cases ‹List Int› <;> rfl
  | _ :: _, [] => rfl
  | t :: L, x :: l => by rw [addS_cons, List.length_cons, addS_len L l, List.length_cons]
theorem addS_fw : ∀ (L : List Tg) (l : List Int), (addS L l).map (fun t => (t.f, t.w)) = L.map fun t => (t.f, t.w)
  | [], l => by cases l <;> rfl
  | _ :: _, [] => rfl
  | t :: L, x :: l => by rw [addS_cons, List.map_cons, addS_fw L l, List.map_cons]
theorem addS_sum : ∀ (L : List Tg) (l : List Int), L.length = l.length → sumS (addS L l) = sumS L + sumI l
  | [], [], _ => rfl
  | t :: L, x :: l, h => by
    rw [addS_cons, sumS_cons, sumS_cons, sumI_cons, addS_sum L l (by simpa using h)]
    show t.s + x + _ = _
    omega
theorem addS_abs : ∀ (L : List Tg) (l : List Int), absS (addS L l) ≤ absS L + sumI (l.map ab)
  | L, [] => by rw [addS_nil]; show _ ≤ _ + 0; omega
  | [], x :: l => by
    show absS [] ≤ _
    have : ∀ m : List Int, 0 ≤ sumI (m.map ab) := fun m => by
      induction m with
      | nil => exact Int.le_refl _
      | cons z m ih => rw [List.map_cons, sumI_cons]; have := ab_nonneg z; omega
    have := this (x :: l); omega
  | t :: L, x :: l => by
    rw [addS_cons, absS_cons, absS_cons, List.map_cons, sumI_cons]
    have := addS_abs L l
    show ab (t.s + x) + _ ≤ _
    have : ab (t.s + x) ≤ ab t.s + ab x := by unfold ab; omega
    omega

/-- What is the same but for the lags. -/
theorem NOk.ofFw {L L' : List Tg} (h : NOk L) (e : L'.map (fun t => (t.f, t.w)) = L.map fun t => (t.f, t.w)) : NOk L' := by
  have ef : L'.map (·.f) = L.map (·.f) := by
    have := congrArg (List.map Prod.fst) e
    rw [List.map_map, List.map_map] at this
    exact this
  refine ⟨?_, fun t ht => ?_⟩
  · rw [asc_iff, ef, ← asc_iff]; exact h.asc
  · have : (t.f, t.w) ∈ L'.map (fun t => (t.f, t.w)) := List.mem_map.2 ⟨t, ht, rfl⟩
    rw [e] at this
    obtain ⟨u, hu, hfw⟩ := List.mem_map.1 this
    have := h.rng u hu
    rw [Prod.mk.injEq] at hfw
    rw [← hfw.1, ← hfw.2]; exact this

/-! ### The operations: the result and the ledger after it -/
def nJoin (L : List Tg) (f w : Int) : Int × List Tg :=
  if f < 0 ∨ 32 ≤ f ∨ w < 1 ∨ 16 < w then (1, L) else if (fget L f).isSome then (7, L) else (0, insT ⟨f, w, 0⟩ L)
def nSetw (L : List Tg) (f w : Int) : Int × List Tg :=
  match fget L f with
  | none => (6, L)
  | some t => if w < 1 ∨ 16 < w then (1, L) else (0, setT ⟨f, w, t.s⟩ L)
def nMove (L : List Tg) (c s n : Int) : Int × List Tg :=
  match fget L c, fget L s with
  | some a, some b =>
    if n < 1 ∨ 4096 < n then (1, L) else if c = s then (0, L)
    else if 1099511627776 < a.s + n ∨ 1099511627776 < b.s - n ∨ a.s + n < -1099511627776 ∨ b.s - n < -1099511627776 then (2, L)
    else (0, setT ⟨s, b.w, b.s - n⟩ (setT ⟨c, a.w, a.s + n⟩ L))
  | _, _ => (6, L)
def nLeave (L : List Tg) (f : Int) : (Int × Int) × List Tg :=
  match fget L f with
  | none => ((0, 6), L)
  | some t => ((t.s, 0), addS (delT f L) (lagSplit t.s (wts (delT f L))))

/-- A ledger whose lags are at most 8192 times N in all. -/
structure LgOk (N : Nat) (L : List Tg) : Prop where
  ok : NOk L
  sm : absS L ≤ 8192 * (N : Int)
theorem LgOk.start : LgOk 0 [] := ⟨⟨.nil, by simp⟩, Int.le_refl _⟩
theorem LgOk.le {N M : Nat} {L : List Tg} (h : LgOk N L) (hm : N ≤ M) : LgOk M L := ⟨h.ok, by have := h.sm; omega⟩
theorem LgOk.lag {N : Nat} {L : List Tg} (h : LgOk N L) {t : Tg} (ht : t ∈ L) : -(8192 * (N : Int)) ≤ t.s ∧ t.s ≤ 8192 * (N : Int) := by
  have h1 := absS_mem ht
  have h2 := h.sm
  unfold ab at h1; omega
theorem insT_abs (x : Tg) : ∀ L : List Tg, absS (insT x L) = ab x.s + absS L
  | [] => rfl
  | a :: L => by
    unfold insT
    split
    · rw [absS_cons, insT_abs x L, absS_cons]; omega
    · rfl
theorem insT_sum (x : Tg) : ∀ L : List Tg, sumS (insT x L) = x.s + sumS L
  | [] => rfl
  | a :: L => by
    unfold insT
    split
    · rw [sumS_cons, insT_sum x L, sumS_cons]; omega
    · rfl
theorem nJoin_ok {N : Nat} {L : List Tg} (h : LgOk N L) (f w : Int) : LgOk N (nJoin L f w).2 := by
  unfold nJoin
  split
  · exact h
  · rename_i hb
    split
    · exact h
    · rename_i hn
      refine ⟨h.ok.ins (by refine ⟨?_, ?_, ?_, ?_⟩ <;> (simp only; omega)) (by simpa using hn), ?_⟩
      rw [insT_abs]
      have := h.sm
      show ab 0 + _ ≤ _
      unfold ab; omega
theorem nJoin_sum (L : List Tg) (f w : Int) : sumS (nJoin L f w).2 = sumS L := by
  unfold nJoin
  split
  · rfl
  · split
    · rfl
    · rw [insT_sum]; show (0 : Int) + _ = _; omega
/-- One line exchanged. -/
theorem setT_abs {x t : Tg} : ∀ {L : List Tg}, (L.map (·.f)).Pairwise (· < ·) → t ∈ L → t.f = x.f → absS (setT x L) = absS L - ab t.s + ab x.s ∧ sumS (setT x L) = sumS L - t.s + x.s
  | [], _, h, _ => absurd h (by simp)
  | a :: L, hp, h, hf => by
    rw [List.map_cons, List.pairwise_cons] at hp
    by_cases ha : a.f = x.f
    · have hat : t = a := by
        rcases List.mem_cons.1 h with h | h
        · exact h
        · have := hp.1 t.f (List.mem_map.2 ⟨t, h, rfl⟩); omega
      subst hat
      have hL : setT x L = L := by
        unfold setT
        rw [List.map_congr_left (g := id) fun u hu => ?_, List.map_id]
        rw [if_neg]; rfl
        intro e
        have := hp.1 u.f (List.mem_map.2 ⟨u, hu, rfl⟩); omega
      have : setT x (t :: L) = x :: L := by
        show (if t.f = x.f then x else t) :: setT x L = _
        rw [if_pos ha, hL]
      rw [this, absS_cons, absS_cons, sumS_cons, sumS_cons]; omega
    · have hm : t ∈ L := by
        rcases List.mem_cons.1 h with h | h
        · subst h; exact absurd hf ha
        · exact h
      obtain ⟨h1, h2⟩ := setT_abs hp.2 hm hf
      have : setT x (a :: L) = a :: setT x L := by
        show (if a.f = x.f then x else a) :: setT x L = _
        rw [if_neg ha]
      rw [this, absS_cons, absS_cons, sumS_cons, sumS_cons]; omega
theorem NOk.asc' {L : List Tg} (h : NOk L) : (L.map (·.f)).Pairwise (· < ·) := asc_iff.1 h.asc
theorem nSetw_ok {N : Nat} {L : List Tg} (h : LgOk N L) (f w : Int) : LgOk N (nSetw L f w).2 := by
  unfold nSetw
  cases hf : fget L f with
  | none => exact h
  | some t =>
    obtain ⟨h1, h2⟩ := fget_some hf
    have hr := h.ok.rng t h1
    simp only
    split
    · exact h
    · rename_i hb
      refine ⟨h.ok.set (by refine ⟨?_, ?_, ?_, ?_⟩ <;> (simp only; omega)), ?_⟩
      rw [(setT_abs (x := ⟨f, w, t.s⟩) h.ok.asc' h1 h2).1]
      have := h.sm
      show _ - ab t.s + ab t.s ≤ _
      omega
theorem nSetw_sum {N : Nat} {L : List Tg} (h : LgOk N L) (f w : Int) : sumS (nSetw L f w).2 = sumS L := by
  unfold nSetw
  cases hf : fget L f with
  | none => rfl
  | some t =>
    obtain ⟨h1, h2⟩ := fget_some hf
    simp only
    split
    · rfl
    · rw [(setT_abs (x := ⟨f, w, t.s⟩) h.ok.asc' h1 h2).2]
      show _ - t.s + t.s = _
      omega
theorem nMove_ok {N : Nat} {L : List Tg} (h : LgOk N L) (c s n : Int) : LgOk (N + 1) (nMove L c s n).2 ∧ sumS (nMove L c s n).2 = sumS L := by
  have h' := h.le (Nat.le_succ N)
  unfold nMove
  cases hc : fget L c with
  | none => exact ⟨h', rfl⟩
  | some a =>
    cases hs : fget L s with
    | none => exact ⟨h', rfl⟩
    | some b =>
      obtain ⟨a1, a2⟩ := fget_some hc
      obtain ⟨b1, b2⟩ := fget_some hs
      have ra := h.ok.rng a a1
      have rb := h.ok.rng b b1
      simp only
      split
      · exact ⟨h', rfl⟩
      · rename_i hn
        split
        · exact ⟨h', rfl⟩
        · rename_i hne
          split
          · exact ⟨h', rfl⟩
          · have hx : NOk (setT ⟨c, a.w, a.s + n⟩ L) := h.ok.set (by refine ⟨?_, ?_, ?_, ?_⟩ <;> (simp only; omega))
            have hb2 : b ∈ setT ⟨c, a.w, a.s + n⟩ L := mem_setT_of b1 (by simp only; omega)
            obtain ⟨x1, x2⟩ := setT_abs (x := ⟨c, a.w, a.s + n⟩) h.ok.asc' a1 a2
            obtain ⟨y1, y2⟩ := setT_abs (x := ⟨s, b.w, b.s - n⟩) hx.asc' hb2 b2
            refine ⟨⟨hx.set (by refine ⟨?_, ?_, ?_, ?_⟩ <;> (simp only; omega)), ?_⟩, ?_⟩
            · rw [y1, x1]
              have := h.sm
              simp only
              unfold ab
              omega
            · rw [y2, x2]; simp only; omega
theorem delT_sums {t : Tg} : ∀ {L : List Tg}, (L.map (·.f)).Pairwise (· < ·) → t ∈ L → absS (delT t.f L) = absS L - ab t.s ∧ sumS (delT t.f L) = sumS L - t.s
  | [], _, h => absurd h (by simp)
  | a :: L, hp, h => by
    rw [List.map_cons, List.pairwise_cons] at hp
    by_cases ha : a.f = t.f
    · have hat : t = a := by
        rcases List.mem_cons.1 h with h | h
        · exact h
        · have := hp.1 t.f (List.mem_map.2 ⟨t, h, rfl⟩); omega
      subst hat
      have hL : delT t.f L = L := by
        unfold delT
        rw [List.filter_eq_self]
        intro u hu
        have := hp.1 u.f (List.mem_map.2 ⟨u, hu, rfl⟩)
        simp; omega
      have : delT t.f (t :: L) = L := by
        unfold delT at hL ⊢
        rw [List.filter_cons_of_neg (by simp), hL]
      rw [this, absS_cons, sumS_cons]; omega
    · have hm : t ∈ L := by
        rcases List.mem_cons.1 h with h | h
        · subst h; exact absurd rfl ha
        · exact h
      obtain ⟨h1, h2⟩ := delT_sums hp.2 hm
      have : delT t.f (a :: L) = a :: delT t.f L := by
        unfold delT
        rw [List.filter_cons_of_pos (by simpa using ha)]
      rw [this, absS_cons, absS_cons, sumS_cons, sumS_cons]; omega
theorem wts_pos {L : List Tg} (h : NOk L) : ∀ w ∈ wts L, 1 ≤ w := by
  intro w hw
  obtain ⟨t, ht, rfl⟩ := List.mem_map.1 hw
  exact (h.rng t ht).2.2.1
theorem nLeave_ok {N : Nat} {L : List Tg} (h : LgOk N L) (f : Int) : LgOk N (nLeave L f).2 := by
  unfold nLeave
  cases hf : fget L f with
  | none => exact h
  | some t =>
    obtain ⟨h1, rfl⟩ := fget_some hf
    simp only
    refine ⟨(h.ok.del _).ofFw (addS_fw _ _), ?_⟩
    have e1 := addS_abs (delT t.f L) (lagSplit t.s (wts (delT t.f L)))
    have e2 := lagSplit_abs t.s (wts_pos (h.ok.del t.f))
    have e3 := (delT_sums h.ok.asc' h1).1
    have := h.sm
    omega
theorem nLeave_sum {N : Nat} {L : List Tg} (h : LgOk N L) (f : Int) (h0 : sumS L = 0) : sumS (nLeave L f).2 = 0 := by
  unfold nLeave
  cases hf : fget L f with
  | none => exact h0
  | some t =>
    obtain ⟨h1, rfl⟩ := fget_some hf
    simp only
    have e3 := (delT_sums h.ok.asc' h1).2
    by_cases hn : delT t.f L = []
    · rw [hn]; rfl
    · rw [addS_sum _ _ (by rw [lagSplit_len]; unfold wts; rw [List.length_map]), lagSplit_sum _ (by unfold wts; simpa using hn)]
      omega
end Go.Proofs.YtjpahfkchhnpoaaGreat

/- Contracts of the library, at the numbers of this translation: laid by program. -/
namespace Go.Proofs.YtjpahfkchhnpoaaGreat
open Go.Shelf
def Tryz.mul64_ren : Go.Shelf.Ren := ⟨fun | 264 => 141 | n => n, fun | 53 => 158 | 46 => 179 | n => n, fun | n => n⟩
theorem Tryz.mul64 : Go.Proofs.Lays.n264 Tryz.prog Tryz.mul64_ren := {
  mixed := by kernel_rfl
  f264 := Tryz.func141.trans (congrArg some (by kernel_rfl))
  t46 := Tryz.underlying179
  a46 := Tryz.isAgg179
  z46 := Tryz.sizeOf179
  v46 := Tryz.zeroValue179
  t53 := Tryz.underlying158
  a53 := Tryz.isAgg158
  z53 := Tryz.sizeOf158
  v53 := Tryz.zeroValue158 }
end Go.Proofs.YtjpahfkchhnpoaaGreat
