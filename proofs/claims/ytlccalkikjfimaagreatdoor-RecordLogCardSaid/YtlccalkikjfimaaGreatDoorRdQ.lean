/- Records, plain: logs encoded and decoded. -/
import Derived.Test.YtlccalkikjfimaaGreatDoorRdP
namespace Go.Proofs.YtlccalkikjfimaaGreatDoor
open Go.Lib
/-- The text of records. -/
def encT : List Rec → List UInt8
  | [] => []
  | r :: l => lineOf r ++ 10 :: encT l
def allOk (l : List Rec) : Bool := l.all fun r => decide (RecOk r)
def encL (l : List Rec) : List UInt8 × Int := if allOk l = true then (encT l, 0) else ([], 1)
/-- Lines read one by one. -/
def decGo : List (List UInt8) → Nat → List Rec → List Rec × Nat × Int
  | [], n, acc => (acc, n, 0)
  | x :: xs, n, acc => if (parseL x).2 = 0 then decGo xs (n + 1) (acc ++ [(parseL x).1]) else ([], n + 1, (parseL x).2)
def decL (s : List UInt8) : List Rec × Nat × Int :=
  if s = [] then ([], 0, 0) else if s.getLast? = some 10 then decGo (spl 10 s.dropLast) 0 [] else ([], 0, 9)
theorem encT_append : ∀ (a b : List Rec), encT (a ++ b) = encT a ++ encT b
  | [], _ => rfl
  | r :: a, b => by show lineOf r ++ 10 :: encT (a ++ b) = (lineOf r ++ 10 :: encT a) ++ encT b; rw [encT_append a b]; simp
theorem encT_ne {r : Rec} {l : List Rec} : encT (r :: l) ≠ [] := by unfold encT; simp
theorem encT_last : ∀ (l : List Rec), l ≠ [] → (encT l).getLast? = some 10
  | [], h => absurd rfl h
  | [r], _ => by unfold encT; simp [encT]
  | r :: q :: l, _ => by
    have ih := encT_last (q :: l) (by simp)
    show (lineOf r ++ 10 :: encT (q :: l)).getLast? = some 10
    rw [List.getLast?_append]
    have : (10 :: encT (q :: l)).getLast? = some 10 := by
      rw [List.getLast?_cons, ih]; rfl
    rw [this]; rfl
theorem encT_join : ∀ (l : List Rec), l ≠ [] → encT l = joinS 10 (l.map lineOf) ++ [10]
  | [], h => absurd rfl h
  | [r], _ => by simp [encT, joinS]
  | r :: q :: l, _ => by
    have ih := encT_join (q :: l) (by simp)
    show lineOf r ++ 10 :: encT (q :: l) = _
    rw [ih]
    simp [joinS]
theorem spl_join {c : UInt8} : ∀ {L : List (List UInt8)}, L ≠ [] → (∀ x ∈ L, c ∉ x) → spl c (joinS c L) = L
  | [], h, _ => absurd rfl h
  | [p], _, h => spl_none (h p (by simp))
  | p :: q :: ps, _, h => by
    show spl c (p ++ c :: joinS c (q :: ps)) = _
    rw [spl_append _ (h p (by simp)), spl_join (by simp) fun x hx => h x (by simp [hx])]
theorem decGo_lines : ∀ (l : List Rec) (n : Nat) (acc : List Rec), allOk l = true → decGo (l.map lineOf) n acc = (acc ++ l, n + l.length, 0)
  | [], n, acc, _ => by simp [decGo]
  | r :: l, n, acc, h => by
    unfold allOk at h
    rw [List.all_cons, Bool.and_eq_true, decide_eq_true_eq] at h
    have hp := line_parse h.1
    show (if (parseL (lineOf r)).2 = 0 then decGo (l.map lineOf) (n + 1) (acc ++ [(parseL (lineOf r)).1]) else _) = _
    rw [hp, if_pos rfl, decGo_lines l (n + 1) _ h.2]
    simp only [List.append_assoc, List.singleton_append, List.length_cons]
    rw [show n + 1 + l.length = n + (l.length + 1) by omega]
/-- What is encoded is read back. -/
theorem dec_enc (l : List Rec) (h : allOk l = true) : decL (encT l) = (l, l.length, 0) := by
  cases l with
  | nil => rfl
  | cons r l =>
    have hj := encT_join (r :: l) (by simp)
    unfold decL
    rw [if_neg encT_ne, if_pos (encT_last _ (by simp)), hj, List.dropLast_concat, spl_join (by simp) (fun x hx => ?_), decGo_lines _ _ _ h]
    · simp
    · obtain ⟨q, hq, rfl⟩ := List.mem_map.1 hx
      unfold allOk at h
      have := List.all_eq_true.1 h q hq
      exact line_no10 (of_decide_eq_true this)
theorem decGo_ok : ∀ (L : List (List UInt8)) (n m : Nat) (acc y : List Rec), decGo L n acc = (y, m, 0) → ∃ z, y = acc ++ z ∧ z.map lineOf = L ∧ allOk z = true ∧ m = n + L.length
  | [], n, m, acc, y, h => by
    simp only [decGo, Prod.mk.injEq] at h
    exact ⟨[], by rw [List.append_nil, h.1], rfl, rfl, by simp [h.2.1]⟩
  | x :: xs, n, m, acc, y, h => by
    unfold decGo at h
    by_cases h0 : (parseL x).2 = 0
    · rw [if_pos h0] at h
      obtain ⟨z, h1, h2, h3, h4⟩ := decGo_ok xs _ _ _ _ h
      have hp : parseL x = ((parseL x).1, 0) := by rw [← h0]
      obtain ⟨g1, g2⟩ := parse_line hp
      refine ⟨(parseL x).1 :: z, by rw [h1]; simp, by rw [List.map_cons, g2, h2], ?_, by rw [h4, List.length_cons]; omega⟩
      unfold allOk at h3 ⊢
      rw [List.all_cons, h3, decide_eq_true g1]; rfl
    · rw [if_neg h0] at h
      simp only [Prod.mk.injEq] at h
      exact absurd h.2.2 h0
/-- What is decoded is encoded to the same text. -/
theorem enc_dec {s : List UInt8} {y : List Rec} {n : Nat} (h : decL s = (y, n, 0)) : allOk y = true ∧ encT y = s ∧ n = y.length := by
  unfold decL at h
  by_cases hs : s = []
  · rw [if_pos hs] at h
    simp only [Prod.mk.injEq] at h
    rw [← h.1, hs]
    exact ⟨rfl, rfl, h.2.1.symm⟩
  · rw [if_neg hs] at h
    by_cases hl : s.getLast? = some 10
    · rw [if_pos hl] at h
      obtain ⟨z, h1, h2, h3, h4⟩ := decGo_ok _ _ _ _ _ h
      rw [List.nil_append] at h1
      subst h1
      have hne : y ≠ [] := fun e => by rw [e] at h2; exact spl_ne 10 s.dropLast h2.symm
      refine ⟨h3, ?_, by rw [h4, ← h2, List.length_map]; omega⟩
      rw [encT_join y hne, h2, join_spl]
      have hg : s.getLast hs = 10 := by rw [List.getLast?_eq_some_getLast hs] at hl; exact Option.some.inj hl
      have e := List.dropLast_concat_getLast hs
      rw [hg] at e
      exact e
    · rw [if_neg hl] at h
      simp only [Prod.mk.injEq] at h
      exact absurd h.2.2 (by decide)
theorem spl_count_le (c : UInt8) (l : List UInt8) : (spl c l).length ≤ l.length + 1 := by
  rw [spl_length]; have := List.count_le_length (a := c) (l := l); omega
end Go.Proofs.YtlccalkikjfimaaGreatDoor
