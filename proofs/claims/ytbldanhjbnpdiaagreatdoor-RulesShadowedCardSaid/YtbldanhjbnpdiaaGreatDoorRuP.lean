/- Words and numerals in plain Lean: ports, rules. -/
import Derived.Test.YtbldanhjbnpdiaaGreatDoorLab
import Derived.Test.YtbldanhjbnpdiaaGreatDoorWd
namespace Go.Proofs.YtbldanhjbnpdiaaGreatDoor
open Go.Lib

/-! ### Ports -/
def cutP (l : List UInt8) : List UInt8 × List UInt8 × Bool := cut l [45]
theorem cut_nil : cutP [] = ([], [], false) := rfl
theorem cut_self (l : List UInt8) : cutP (45 :: l) = ([], l, true) := by
  unfold cutP cut
  rw [index_self]; rfl
theorem cut_other {b : UInt8} (h : b ≠ 45) (l : List UInt8) : cutP (b :: l) = (b :: (cutP l).1, (cutP l).2) := by
  unfold cutP cut
  have hge := index_ge l [45]
  by_cases hm : index l [45] = -1
  · have h1 : index (b :: l) [45] = -1 := by rw [index_other h, if_pos (beq_iff_eq.2 hm)]
    rw [h1, hm]; rfl
  · obtain ⟨j, hj⟩ : ∃ j : Nat, index l [45] = j := ⟨(index l [45]).toNat, by omega⟩
    have h1 : index (b :: l) [45] = ((j + 1 : Nat) : Int) := by rw [index_other h, if_neg (fun e => hm (beq_iff_eq.1 e)), hj]; omega
    rw [h1, hj, if_pos (by omega), if_pos (by omega)]
    rfl
/-- Cut at the place of the first minus sign. -/
theorem cut_at : ∀ (l : List UInt8) (i : Nat), l[i]? = some 45 → (∀ k, k < i → l[k]? ≠ some 45) → cutP l = (l.take i, l.drop (i + 1), true)
  | [], i, h, _ => by simp at h
  | b :: l, 0, h, _ => by
    simp only [List.getElem?_cons_zero, Option.some.injEq] at h
    subst h; rw [cut_self]; rfl
  | b :: l, i + 1, h, hk => by
    have hb : b ≠ 45 := fun e => hk 0 (by omega) (by rw [e]; rfl)
    rw [cut_other hb, cut_at l i (by simpa using h) fun k hk' => by simpa using hk (k + 1) (by omega)]
    rfl
theorem cut_not : ∀ (l : List UInt8), (∀ k, k < l.length → l[k]? ≠ some 45) → cutP l = (l, [], false)
  | [], _ => rfl
  | b :: l, hk => by
    have hb : b ≠ 45 := fun e => hk 0 (by simp) (by rw [e]; rfl)
    rw [cut_other hb, cut_not l fun k hk' => by simpa using hk (k + 1) (by simpa using hk')]
/-- The ports of a word: first, last, whether they are well-formed. -/
def portF (l : List UInt8) : Nat := if l = [42] then 0 else numV 5 (cutP l).1
def portL (l : List UInt8) : Nat := if l = [42] then 65535 else if (cutP l).2.2 then numV 5 (cutP l).2.1 else numV 5 (cutP l).1
def portOK (l : List UInt8) : Bool := decide (l = [42]) || (numOK 5 (cutP l).1 && (!(cutP l).2.2 || numOK 5 (cutP l).2.1))

/-! ### Rules -/
structure Ru where
  st : List UInt8
  cls : Int
  first : Int
  last : Int
  flow : Int
def ruOK (r : Ru) : Bool := (decide (r.st = []) || nameB r.st) && decide (-1 ≤ r.cls ∧ r.cls ≤ 7 ∧ 0 ≤ r.first ∧ r.first ≤ r.last ∧ r.last ≤ 65535 ∧ 0 ≤ r.flow ∧ r.flow < 32)
def ru0 : Ru := ⟨[], 0, 0, 0, 0⟩
/-- The rule of four words. -/
def ruOf (a b c d : List UInt8) : Ru := ⟨if a = [42] then [] else a, if b = [42] then -1 else (numV 5 b : Nat), (portF c : Nat), (portL c : Nat), (numV 5 d.tail : Nat)⟩
def wordsOK (a b c d : List UInt8) : Bool := !decide (a = []) && (decide (b = [42]) || numOK 5 b) && portOK c && decide (d.head? = some 62) && numOK 5 d.tail
def parseR (l : List UInt8) : Ru × Int :=
  match spl 32 l with
  | [a, b, c, d] => if wordsOK a b c d then (if ruOK (ruOf a b c d) then (ruOf a b c d, 0) else (ru0, 1)) else (ru0, 8)
  | _ => (ru0, 8)
end Go.Proofs.YtbldanhjbnpdiaaGreatDoor
