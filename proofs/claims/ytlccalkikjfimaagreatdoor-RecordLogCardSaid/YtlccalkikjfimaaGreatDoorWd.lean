/- Words and numerals in plain Lean: splitting at a byte, decimal numbers. -/
import Derived.Lib.SplitLaws
import Derived.Lib.ReplaceLaws
import Derived.Lib.CutLaws
import Derived.Lib.Atoi
import Derived.Lib.SlTrimSet
namespace Go.Proofs.YtlccalkikjfimaaGreatDoor
open Go.Lib

def hd (b : UInt8) : List (List UInt8) → List (List UInt8)
  | [] => [[b]]
  | p :: ps => (b :: p) :: ps
/-- The pieces between the bytes c. -/
def spl (c : UInt8) : List UInt8 → List (List UInt8)
  | [] => [[]]
  | b :: r => if b = c then [] :: spl c r else hd b (spl c r)
theorem spl_ne (c : UInt8) : ∀ l, spl c l ≠ []
  | [] => by simp [spl]
  | b :: r => by
    unfold spl
    split
    · simp
    · cases h : spl c r with
      | nil => exact absurd h (spl_ne c r)
      | cons p ps => simp [hd]
theorem index_self (c : UInt8) (l : List UInt8) : index (c :: l) [c] = ((0 : Nat) : Int) := by rw [index]; simp [List.isPrefixOf]
theorem index_other {b c : UInt8} (h : b ≠ c) (l : List UInt8) : index (b :: l) [c] = if index l [c] == -1 then -1 else index l [c] + 1 := by
  have hp : ([c] : List UInt8).isPrefixOf (b :: l) = false := by simp [List.isPrefixOf, Ne.symm h]
  rw [index, hp]; simp
theorem splitK_self (c : UInt8) (l : List UInt8) (k : Nat) : splitK [c] 0 (k + 1) (c :: l) = [] :: splitK [c] 0 k l := by
  conv => lhs; unfold splitK
  rw [index_self]
  rfl
theorem splitK_other {b c : UInt8} (h : b ≠ c) (l : List UInt8) : ∀ k, splitK [c] 0 k (b :: l) = hd b (splitK [c] 0 k l)
  | 0 => rfl
  | k + 1 => by
    by_cases hm : index l [c] = -1
    · have h1 : index (b :: l) [c] = -1 := by rw [index_other h, if_pos (beq_iff_eq.2 hm)]
      unfold splitK
      rw [if_pos (beq_iff_eq.2 h1), if_pos (beq_iff_eq.2 hm)]; rfl
    · have hge := index_ge l [c]
      obtain ⟨j, hj⟩ : ∃ j : Nat, index l [c] = j := ⟨(index l [c]).toNat, by omega⟩
      have h1 : index (b :: l) [c] = ((j + 1 : Nat) : Int) := by rw [index_other h, if_neg (fun e => hm (beq_iff_eq.1 e)), hj]; omega
      unfold splitK
      rw [if_neg (fun e => by have := beq_iff_eq.1 e; omega), if_neg (fun e => by have := beq_iff_eq.1 e; omega), h1, hj]
      rfl
theorem splitK_spl (c : UInt8) : ∀ l : List UInt8, splitK [c] 0 (l.count c) l = spl c l
  | [] => rfl
  | b :: l => by
    by_cases hb : b = c
    · subst hb
      rw [List.count_cons_self, splitK_self, splitK_spl b l]
      simp [spl]
    · rw [List.count_cons_of_ne (by simpa using hb), splitK_other hb, splitK_spl c l]
      simp [spl, hb]
theorem spl_length (c : UInt8) : ∀ l : List UInt8, (spl c l).length = l.count c + 1
  | [] => rfl
  | b :: l => by
    have ih := spl_length c l
    by_cases hb : b = c
    · subst hb; rw [List.count_cons_self]; simp [spl, ih]
    · rw [List.count_cons_of_ne (by simpa using hb)]
      unfold spl
      rw [if_neg hb]
      cases h : spl c l with
      | nil => exact absurd h (spl_ne c l)
      | cons p ps => rw [h] at ih; simpa [hd] using ih
/-- One byte more. -/
theorem spl_snoc (c : UInt8) : ∀ l : List UInt8, ∃ (init : List (List UInt8)) (last : List UInt8), spl c l = init ++ [last] ∧ spl c (l ++ [c]) = init ++ [last] ++ [[]] ∧ (∀ b, b ≠ c → spl c (l ++ [b]) = init ++ [last ++ [b]])
  | [] => ⟨[], [], rfl, by simp [spl], fun b hb => by simp [spl, hd, hb]⟩
  | a :: l => by
    obtain ⟨init, last, h1, h2, h3⟩ := spl_snoc c l
    by_cases ha : a = c
    · subst ha
      refine ⟨[] :: init, last, ?_, ?_, fun b hb => ?_⟩
      · simp [spl, h1]
      · simp [spl, h2]
      · simp [spl, h3 b hb]
    · cases init with
      | nil =>
        refine ⟨[], a :: last, ?_, ?_, fun b hb => ?_⟩
        · simp [spl, ha, h1, hd]
        · simp [spl, ha, h2, hd]
        · simp [spl, ha, h3 b hb, hd]
      | cons p ps =>
        refine ⟨(a :: p) :: ps, last, ?_, ?_, fun b hb => ?_⟩
        · simp [spl, ha, h1, hd]
        · simp [spl, ha, h2, hd]
        · simp [spl, ha, h3 b hb, hd]
theorem spl_none {c : UInt8} : ∀ {l : List UInt8}, c ∉ l → spl c l = [l]
  | [], _ => rfl
  | b :: l, h => by
    simp only [List.mem_cons, not_or] at h
    unfold spl
    rw [if_neg (Ne.symm h.1), spl_none h.2]; rfl
theorem spl_append {c : UInt8} : ∀ {l : List UInt8} (r : List UInt8), c ∉ l → spl c (l ++ c :: r) = l :: spl c r
  | [], r, _ => by simp [spl]
  | b :: l, r, h => by
    simp only [List.mem_cons, not_or] at h
    rw [List.cons_append]
    conv => lhs; unfold spl
    rw [if_neg (Ne.symm h.1), spl_append r h.2]; rfl

/-! ### Numbers -/
theorem drop_first {p : UInt8 → Bool} : ∀ {l : List UInt8} {b : UInt8} {r : List UInt8}, l.dropWhile p = b :: r → p b = false
  | [], _, _, h => by simp at h
  | a :: l, b, r, h => by
    by_cases ha : p a = true
    · rw [List.dropWhile_cons_of_pos ha] at h; exact drop_first h
    · rw [List.dropWhile_cons_of_neg ha, List.cons.injEq] at h
      rw [← h.1]; simpa using ha
def digB (b : UInt8) : Bool := decide (48 ≤ b.toNat ∧ b.toNat ≤ 57)
theorem digB_iff {b : UInt8} : digB b = true ↔ 48 ≤ b.toNat ∧ b.toNat ≤ 57 := by unfold digB; exact decide_eq_true_iff
theorem digitVal_dig {b : UInt8} (h : digB b = true) : digitVal b = some (b.toNat - 48) := by
  unfold digB at h; unfold digitVal; rw [if_pos (of_decide_eq_true h)]
theorem digitVal_not {b : UInt8} (h : ¬ digB b = true) : digitVal b = none := by
  unfold digB at h; unfold digitVal; rw [if_neg (by simpa using h)]
def valFrom (acc : Nat) : List UInt8 → Nat
  | [] => acc
  | b :: r => valFrom (acc * 10 + (b.toNat - 48)) r
theorem decFrom_all : ∀ (l : List UInt8) (acc : Nat), decFrom acc l = if l.all digB then some (valFrom acc l) else none
  | [], acc => rfl
  | b :: r, acc => by
    have ih := decFrom_all r
    cases hb : digB b with
    | true =>
      have hd := digitVal_dig hb
      rw [List.all_cons, hb, Bool.true_and]
      show (match digitVal b with | some d => decFrom (acc * 10 + d) r | none => none) = _
      rw [hd]
      exact ih _
    | false =>
      have hd := digitVal_not (b := b) (by rw [hb]; decide)
      rw [List.all_cons, hb, Bool.false_and]
      show (match digitVal b with | some d => decFrom (acc * 10 + d) r | none => none) = _
      rw [hd]
      rfl
theorem valFrom_snoc : ∀ (l : List UInt8) (acc : Nat) (b : UInt8), valFrom acc (l ++ [b]) = valFrom acc l * 10 + (b.toNat - 48)
  | [], _, _ => rfl
  | a :: l, acc, b => valFrom_snoc l _ b
theorem valFrom_le : ∀ (l : List UInt8) (acc : Nat), l.all digB = true → valFrom acc l + 1 ≤ (acc + 1) * 10 ^ l.length
  | [], acc, _ => Nat.le_of_eq (Nat.mul_one (acc + 1)).symm
  | b :: r, acc, h => by
    rw [List.all_cons, Bool.and_eq_true] at h
    have ih := valFrom_le r (acc * 10 + (b.toNat - 48)) h.2
    have hb := digB_iff.1 h.1
    refine Nat.le_trans ih ?_
    rw [List.length_cons, Nat.pow_succ, Nat.mul_comm (10 ^ r.length) 10, ← Nat.mul_assoc]
    exact Nat.mul_le_mul_right _ (by omega)
/-- A numeral of at most `most` digits. -/
def numOK (most : Nat) (l : List UInt8) : Bool := decide (1 ≤ l.length) && decide (l.length ≤ most) && !(decide (1 < l.length) && decide (l.head? = some 48)) && l.all digB
def numV (most : Nat) (l : List UInt8) : Nat := if numOK most l then valFrom 0 l else 0
theorem numOK_all {most : Nat} {l : List UInt8} (h : numOK most l = true) : l.all digB = true := by
  unfold numOK at h; rw [Bool.and_eq_true] at h; exact h.2
theorem numOK_len {most : Nat} {l : List UInt8} (h : numOK most l = true) : 1 ≤ l.length ∧ l.length ≤ most := by
  unfold numOK at h; simp only [Bool.and_eq_true, decide_eq_true_eq] at h; exact h.1.1
theorem atoi_num {l : List UInt8} (h : l.all digB = true) (hl : 1 ≤ l.length) : atoi l = some (valFrom 0 l : Int) := by
  cases l with
  | nil => simp at hl
  | cons b r =>
    have hb : digB b = true := by rw [List.all_cons, Bool.and_eq_true] at h; exact h.1
    have hb' := digB_iff.1 hb
    have h45 : (b == 45) = false := beq_eq_false_iff_ne.2 fun e => by subst e; exact absurd hb' (by decide)
    have h43 : (b == 43) = false := beq_eq_false_iff_ne.2 fun e => by subst e; exact absurd hb' (by decide)
    have e : atoi (b :: r) = (decNat (b :: r)).map fun (m : Nat) => (m : Int) := by simp only [atoi, h45, h43, Bool.false_eq_true, if_false]
    rw [e]
    unfold decNat
    rw [decFrom_all, if_pos h]
    rfl
def digs : List UInt8 := [48, 49, 50, 51, 52, 53, 54, 55, 56, 57]
theorem digs_contains (b : UInt8) : digs.contains b = digB b := by
  have : ∀ n : Fin 256, digs.contains (UInt8.ofNat n.val) = digB (UInt8.ofNat n.val) := by decide +kernel
  have h := this ⟨b.toNat, b.toNat_lt⟩
  simpa using h
theorem dropWhile_nil {p : UInt8 → Bool} : ∀ l : List UInt8, l.dropWhile p = [] ↔ l.all p = true
  | [] => by simp
  | b :: l => by
    by_cases hb : p b = true
    · rw [List.dropWhile_cons_of_pos hb, dropWhile_nil l]; simp [hb]
    · rw [List.dropWhile_cons_of_neg hb]; simp [hb]
theorem trimS_digs (l : List UInt8) : trimS l digs = [] ↔ l.all digB = true := by
  have hd : (fun x => digs.contains x) = digB := funext digs_contains
  unfold trimS trimLeftS trimRightS
  rw [hd]
  constructor
  · intro h
    rw [dropWhile_nil] at h
    by_cases ha : l.all digB = true
    · exact ha
    · exfalso
      have hne : l.reverse.dropWhile digB ≠ [] := fun e => ha (by rw [dropWhile_nil] at e; rwa [List.all_reverse] at e)
      cases hx : l.reverse.dropWhile digB with
      | nil => exact hne hx
      | cons b r =>
        rw [hx, List.all_reverse] at h
        have hb : digB b = false := drop_first hx
        simp [hb] at h
  · intro h
    have : l.reverse.dropWhile digB = [] := by rw [dropWhile_nil, List.all_reverse]; exact h
    rw [this]; rfl
end Go.Proofs.YtlccalkikjfimaaGreatDoor
