/- Records, plain: which record a line describes. -/
import Derived.Test.YtlccalkikjfimaaGreatDoorRcP
import Derived.Test.YtlccalkikjfimaaGreatDoorBt
namespace Go.Proofs.YtlccalkikjfimaaGreatDoor
open Go.Lib
/-- Whether a numeral has a minus sign; its digits. -/
def nlNeg (l : List UInt8) : Bool := decide (l.head? = some 45)
def nlDig (l : List UInt8) : List UInt8 := if nlNeg l = true then l.tail else l
def nlOK (l : List UInt8) : Bool := numOK 19 (nlDig l) && !(nlNeg l && decide ((nlDig l).head? = some 48))
def nlV (l : List UInt8) : Int := if nlNeg l = true then -(valFrom 0 (nlDig l) : Nat) else (valFrom 0 (nlDig l) : Nat)
/-- The kind of a word; 0 of others. -/
def kindIn : List (List UInt8) → List UInt8 → Nat
  | [], _ => 0
  | w :: ws, x => if x = w then 1 else if kindIn ws x = 0 then 0 else kindIn ws x + 1
def kindOf (x : List UInt8) : Nat := kindIn wordList x
def rec0 : Rec := ⟨0, 0, 0, 0, 0, 0⟩
/-- The record of six words. -/
def recOf (a k b c d e : List UInt8) : Rec := ⟨nlV a, (kindOf k : Nat), nlV b, nlV c, nlV d, nlV e⟩
def formOK (a k b c d e : List UInt8) : Bool := decide (kindOf k ≠ 0) && (nlOK a && (nlOK b && (nlOK c && (nlOK d && nlOK e))))
def parseL (l : List UInt8) : Rec × Int :=
  match spl 32 l with
  | [a, k, b, c, d, e] => if formOK a k b c d e then (if RecOk (recOf a k b c d e) then (recOf a k b c d e, 0) else (rec0, 1)) else (rec0, 8)
  | _ => (rec0, 8)
theorem parseL_words {l a k b c d e : List UInt8} (h : spl 32 l = [a, k, b, c, d, e]) : parseL l = if formOK a k b c d e then (if RecOk (recOf a k b c d e) then (recOf a k b c d e, 0) else (rec0, 1)) else (rec0, 8) := by
  unfold parseL; rw [h]
theorem parseL_else {l : List UInt8} (h : (spl 32 l).length ≠ 6) : parseL l = (rec0, 8) := by
  unfold parseL
  rcases hs : spl 32 l with _ | ⟨a, _ | ⟨b, _ | ⟨c, _ | ⟨d, _ | ⟨e, _ | ⟨f, _ | ⟨g, r⟩⟩⟩⟩⟩⟩⟩ <;> rw [hs] at h <;> simp at h <;> rfl
theorem six_of {l : List (List UInt8)} (h : l.length = 6) : ∃ a k b c d e, l = [a, k, b, c, d, e] := by
  match l, h with
  | [a, k, b, c, d, e], _ => exact ⟨a, k, b, c, d, e, rfl⟩
/-! ### Numerals -/
theorem digB_dig {n : Nat} (h : n < 10) : digB (UInt8.ofNat (48 + n)) = true := by
  have : ∀ i : Fin 10, digB (UInt8.ofNat (48 + i.val)) = true := by decide
  exact this ⟨n, h⟩
theorem val_dig {n : Nat} (h : n < 10) : (UInt8.ofNat (48 + n)).toNat - 48 = n := by
  have : ∀ i : Fin 10, (UInt8.ofNat (48 + i.val)).toNat - 48 = i.val := by decide
  exact this ⟨n, h⟩
theorem dec_lt {n : Nat} (h : n < 10) : decDigits n = dig n := by rw [decDigits, dif_pos h]; rfl
theorem dec_ge {n : Nat} (h : ¬ n < 10) : decDigits n = decDigits (n / 10) ++ dig (n % 10) := by
  conv => lhs; rw [decDigits, dif_neg h]
  rfl
theorem dec_digs : ∀ (k n : Nat), n < k → (decDigits n).all digB = true ∧ valFrom 0 (decDigits n) = n ∧ 1 ≤ (decDigits n).length ∧ (1 < (decDigits n).length → (decDigits n).head? ≠ some 48) ∧ (0 < n → (decDigits n).head? ≠ some 48)
  | 0, n, h => by omega
  | k + 1, n, h => by
    by_cases h10 : n < 10
    · rw [dec_lt h10]
      unfold dig
      refine ⟨?_, ?_, by simp, by simp, ?_⟩
      · show (digB (UInt8.ofNat (48 + n)) && true) = true
        rw [digB_dig h10]; rfl
      · show 0 * 10 + _ = n
        rw [val_dig h10]; omega
      · intro h0 e
        have e1 := congrArg UInt8.toNat (Option.some.inj e)
        have e2 := val_dig h10
        rw [e1] at e2
        have : (48 : UInt8).toNat = 48 := rfl
        omega
    · rw [dec_ge h10]
      obtain ⟨i1, i2, i3, i4, i5⟩ := dec_digs k (n / 10) (by omega)
      have hm : n % 10 < 10 := by omega
      have hh : (decDigits (n / 10) ++ dig (n % 10)).head? = (decDigits (n / 10)).head? := by
        cases hd : decDigits (n / 10) with
        | nil => rw [hd] at i3; simp at i3
        | cons b r => rfl
      refine ⟨?_, ?_, ?_, ?_, ?_⟩
      · rw [List.all_append, i1]
        show (true && (digB (UInt8.ofNat (48 + n % 10)) && true)) = true
        rw [digB_dig hm]; rfl
      · unfold dig
        rw [valFrom_snoc, i2, val_dig hm]; omega
      · rw [List.length_append]; omega
      · intro _; rw [hh]; exact i5 (by omega)
      · intro _; rw [hh]; exact i5 (by omega)
theorem not_of_digs {l : List UInt8} (h : l.all digB = true) {b : UInt8} (hb : digB b = false) : b ∉ l := by
  intro hm
  rw [List.all_eq_true] at h
  have := h b hm
  rw [hb] at this; cases this
/-- A digit by its value. -/
theorem dig_val {b : UInt8} (h : digB b = true) : dig (b.toNat - 48) = [b] := by
  have hb := digB_iff.1 h
  unfold dig
  rw [show 48 + (b.toNat - 48) = b.toNat by omega, UInt8.ofNat_toNat]
/-- A numeral without a leading zero is the decimal form of its value. -/
theorem canon : ∀ (n : Nat) (l : List UInt8), l.length = n + 1 → l.all digB = true → (1 < l.length → l.head? ≠ some 48) → decDigits (valFrom 0 l) = l ∧ (1 < l.length → 10 ^ n ≤ valFrom 0 l) ∧ (l.head? ≠ some 48 → 1 ≤ valFrom 0 l)
  | n, l, hl, hd, hz => by
    have hne : l ≠ [] := fun e => by rw [e] at hl; simp at hl
    obtain ⟨i, b, rfl⟩ : ∃ i b, l = i ++ [b] := ⟨l.dropLast, l.getLast hne, (List.dropLast_concat_getLast hne).symm⟩
    rw [List.all_append, Bool.and_eq_true] at hd
    have hb : digB b = true := by have := hd.2; rw [List.all_cons, Bool.and_eq_true] at this; exact this.1
    have hb' := digB_iff.1 hb
    rw [valFrom_snoc]
    cases i with
    | nil =>
      have e : valFrom 0 [] * 10 + (b.toNat - 48) = b.toNat - 48 := by show 0 * 10 + _ = _; omega
      rw [e]
      refine ⟨?_, fun h => by simp at h, fun h => ?_⟩
      · rw [dec_lt (by omega), dig_val hb]; rfl
      · have : b.toNat ≠ 48 := fun e => h (by rw [show b = 48 from UInt8.toNat_inj.1 e]; rfl)
        omega
    | cons a r =>
      cases n with
      | zero => simp at hl
      | succ n =>
        have hlen : (a :: r).length = n + 1 := by simp at hl ⊢; exact hl
        have hz1 : (a :: r).head? ≠ some 48 := by
          have := hz (by simp)
          simpa using this
        obtain ⟨c1, c2, c3⟩ := canon n (a :: r) hlen hd.1 fun _ => hz1
        have h1 := c3 hz1
        have hp : 10 ^ n ≤ valFrom 0 (a :: r) := by
          by_cases h : 1 < (a :: r).length
          · exact c2 h
          · have : n = 0 := by omega
            subst this; exact h1
        refine ⟨?_, fun _ => ?_, fun _ => by omega⟩
        · rw [dec_ge (by omega), show (valFrom 0 (a :: r) * 10 + (b.toNat - 48)) / 10 = valFrom 0 (a :: r) by omega, show (valFrom 0 (a :: r) * 10 + (b.toNat - 48)) % 10 = b.toNat - 48 by omega, c1, dig_val hb]
        · rw [Nat.pow_succ]; omega
theorem dec19 {u : Nat} (h : u ≤ 9223372036854775807) : (decDigits u).length ≤ 19 := dec_len (by omega)
theorem not45 {l : List UInt8} (h : l.all digB = true) : l.head? ≠ some 45 := by
  cases l with
  | nil => simp
  | cons b r =>
    intro e
    rw [List.all_cons, Bool.and_eq_true] at h
    have h2 : b = 45 := Option.some.inj e
    rw [h2] at h
    exact absurd h.1 (by decide)
/-- The numeral of a number is well-formed and denotes it. -/
theorem itoa_num {n : Int} (h0 : -4611686018427387904 ≤ n) (h1 : n ≤ 4611686018427387904) : nlOK (itoa n) = true ∧ nlV (itoa n) = n ∧ 32 ∉ itoa n ∧ 10 ∉ itoa n := by
  by_cases hn : 0 ≤ n
  · rw [itoa_nonneg hn]
    obtain ⟨i1, i2, i3, i4, _⟩ := dec_digs (n.toNat + 1) n.toNat (by omega)
    have hneg : nlNeg (decDigits n.toNat) = false := decide_eq_false (not45 i1)
    have hdig : nlDig (decDigits n.toNat) = decDigits n.toNat := by unfold nlDig; rw [hneg, if_neg Bool.false_ne_true]
    refine ⟨?_, ?_, not_of_digs i1 rfl, not_of_digs i1 rfl⟩
    · unfold nlOK
      rw [hdig, hneg, numOK_good i3 (dec19 (by omega)) (fun h => by rw [← List.head?_eq_getElem?] at h; exact i4 h.1 h.2) i1]
      rfl
    · unfold nlV
      rw [hdig, hneg, if_neg Bool.false_ne_true, i2]; omega
  · rw [itoa_neg (by omega), itoa_nonneg (by omega)]
    obtain ⟨i1, i2, i3, i4, i5⟩ := dec_digs ((-n).toNat + 1) (-n).toNat (by omega)
    have hneg : nlNeg (45 :: decDigits (-n).toNat) = true := rfl
    have hdig : nlDig (45 :: decDigits (-n).toNat) = decDigits (-n).toNat := rfl
    refine ⟨?_, ?_, ?_, ?_⟩
    · unfold nlOK
      rw [hdig, hneg, numOK_good i3 (dec19 (by omega)) (fun h => by rw [← List.head?_eq_getElem?] at h; exact i4 h.1 h.2) i1, decide_eq_false (i5 (by omega))]
      rfl
    · unfold nlV
      rw [hdig, hneg, if_pos rfl, i2]; omega
    · intro h; rcases List.mem_cons.1 h with h | h
      · exact absurd h (by decide)
      · exact not_of_digs i1 rfl h
    · intro h; rcases List.mem_cons.1 h with h | h
      · exact absurd h (by decide)
      · exact not_of_digs i1 rfl h
/-- A well-formed numeral is the numeral of its number. -/
theorem num_itoa {l : List UInt8} (h : nlOK l = true) : itoa (nlV l) = l := by
  unfold nlOK at h
  rw [Bool.and_eq_true] at h
  have hlen := numOK_len h.1
  have hall := numOK_all h.1
  have hz : 1 < (nlDig l).length → (nlDig l).head? ≠ some 48 := by
    have := h.1
    unfold numOK at this
    simp only [Bool.and_eq_true, decide_eq_true_eq, Bool.not_eq_true', Bool.and_eq_false_iff, decide_eq_false_iff_not] at this
    intro h1 h2
    rcases this.1.2 with h3 | h3
    · exact h3 h1
    · exact h3 h2
  obtain ⟨c1, c2, c3⟩ := canon ((nlDig l).length - 1) (nlDig l) (by omega) hall hz
  cases hg : nlNeg l with
  | false =>
    have hd : nlDig l = l := by unfold nlDig; rw [hg, if_neg Bool.false_ne_true]
    unfold nlV
    rw [hg, if_neg Bool.false_ne_true, itoa_nonneg (by omega), Int.toNat_natCast, c1, hd]
  | true =>
    have h2 := h.2
    rw [hg] at h2
    have hne : (nlDig l).head? ≠ some 48 := by simpa using h2
    have h1 := c3 hne
    unfold nlV
    rw [hg, if_pos rfl, itoa_neg (by omega), Int.neg_neg, itoa_nonneg (by omega), Int.toNat_natCast, c1]
    unfold nlNeg at hg
    have hh := of_decide_eq_true hg
    unfold nlDig nlNeg
    rw [if_pos (decide_eq_true hh)]
    cases l with
    | nil => simp at hh
    | cons b r => rw [show b = 45 from Option.some.inj hh]; rfl
/-! ### Kinds -/
theorem kind_word {k : Int} (h1 : 1 ≤ k) (h2 : k ≤ 10) : (kindOf (wordOf k) : Int) = k ∧ 32 ∉ wordOf k ∧ 10 ∉ wordOf k := by
  obtain ⟨j, hj, rfl⟩ : ∃ j : Nat, j < 10 ∧ k = (j : Int) + 1 := ⟨(k - 1).toNat, by omega, by omega⟩
  have : ∀ i : Fin 10, (kindOf (wordOf ((i.val : Int) + 1)) : Int) = (i.val : Int) + 1 ∧ 32 ∉ wordOf ((i.val : Int) + 1) ∧ 10 ∉ wordOf ((i.val : Int) + 1) := by decide +kernel
  exact this ⟨j, hj⟩
theorem kindIn_word : ∀ (ws : List (List UInt8)) (x : List UInt8), kindIn ws x ≠ 0 → ws.getD (kindIn ws x - 1) [] = x ∧ kindIn ws x ≤ ws.length
  | [], x, h => absurd rfl h
  | w :: ws, x, h => by
    unfold kindIn at h ⊢
    by_cases hx : x = w
    · rw [if_pos hx]; exact ⟨hx.symm, by simp⟩
    · rw [if_neg hx] at h ⊢
      by_cases h0 : kindIn ws x = 0
      · rw [if_pos h0] at h; exact absurd rfl h
      · rw [if_neg h0]
        obtain ⟨i1, i2⟩ := kindIn_word ws x h0
        refine ⟨?_, by rw [List.length_cons]; omega⟩
        obtain ⟨j, hj⟩ : ∃ j, kindIn ws x = j + 1 := ⟨kindIn ws x - 1, by omega⟩
        rw [hj] at i1 ⊢
        exact i1
theorem word_kind {x : List UInt8} (h : kindOf x ≠ 0) : wordOf (kindOf x : Nat) = x ∧ kindOf x ≤ 10 := by
  obtain ⟨h1, h2⟩ := kindIn_word wordList x h
  refine ⟨?_, h2⟩
  unfold wordOf
  rw [show ((kindOf x : Nat) - 1 : Int).toNat = kindOf x - 1 by omega]
  exact h1
/-! ### Lines -/
theorem spl_six {a k b c d e : List UInt8} (ha : 32 ∉ a) (hk : 32 ∉ k) (hb : 32 ∉ b) (hc : 32 ∉ c) (hd : 32 ∉ d) (he : 32 ∉ e) :
    spl 32 (a ++ 32 :: (k ++ 32 :: (b ++ 32 :: (c ++ 32 :: (d ++ 32 :: e))))) = [a, k, b, c, d, e] := by
  rw [spl_append _ ha, spl_append _ hk, spl_append _ hb, spl_append _ hc, spl_append _ hd, spl_none he]
/-- What is formatted is parsed back. -/
theorem line_parse {r : Rec} (h : RecOk r) : parseL (lineOf r) = (r, 0) := by
  have hs := h.slot
  have hf := h.flow
  have hp := h.packet
  have hw := h.why
  obtain ⟨a1, a2, a3, _⟩ := itoa_num (n := r.slot) (by omega) (by omega)
  obtain ⟨b1, b2, b3, _⟩ := itoa_num (n := r.flow) (by omega) (by omega)
  obtain ⟨c1, c2, c3, _⟩ := itoa_num (n := r.packet) (by omega) (by omega)
  obtain ⟨d1, d2, d3, _⟩ := itoa_num (n := r.why) (by omega) (by omega)
  obtain ⟨e1, e2, e3, _⟩ := itoa_num h.value.1 h.value.2
  obtain ⟨k1, k2, _⟩ := kind_word h.kind.1 h.kind.2
  unfold lineOf
  rw [parseL_words (spl_six a3 k2 b3 c3 d3 e3)]
  have hform : formOK (itoa r.slot) (wordOf r.kind) (itoa r.flow) (itoa r.packet) (itoa r.why) (itoa r.value) = true := by
    unfold formOK
    rw [a1, b1, c1, d1, e1, decide_eq_true (by have := h.kind.1; omega)]; rfl
  have hrec : recOf (itoa r.slot) (wordOf r.kind) (itoa r.flow) (itoa r.packet) (itoa r.why) (itoa r.value) = r := by
    unfold recOf
    rw [a2, b2, c2, d2, e2, k1]
  rw [if_pos hform, hrec, if_pos h]
theorem line_no10 {r : Rec} (h : RecOk r) : 10 ∉ lineOf r := by
  have hs := h.slot
  have hf := h.flow
  have hp := h.packet
  have hw := h.why
  obtain ⟨_, _, _, a⟩ := itoa_num (n := r.slot) (by omega) (by omega)
  obtain ⟨_, _, _, b⟩ := itoa_num (n := r.flow) (by omega) (by omega)
  obtain ⟨_, _, _, c⟩ := itoa_num (n := r.packet) (by omega) (by omega)
  obtain ⟨_, _, _, d⟩ := itoa_num (n := r.why) (by omega) (by omega)
  obtain ⟨_, _, _, e⟩ := itoa_num h.value.1 h.value.2
  obtain ⟨_, _, k⟩ := kind_word h.kind.1 h.kind.2
  unfold lineOf
  simp [a, b, c, d, e, k]
/-- The words, joined again. -/
def joinS (c : UInt8) : List (List UInt8) → List UInt8
  | [] => []
  | [p] => p
  | p :: ps => p ++ c :: joinS c ps
theorem joinS_hd (c b : UInt8) : ∀ (L : List (List UInt8)), L ≠ [] → joinS c (hd b L) = b :: joinS c L
  | [], h => absurd rfl h
  | [p], _ => rfl
  | p :: q :: ps, _ => rfl
theorem join_spl (c : UInt8) : ∀ l : List UInt8, joinS c (spl c l) = l
  | [] => rfl
  | b :: r => by
    have ih := join_spl c r
    unfold spl
    split
    · rename_i hb
      cases hs : spl c r with
      | nil => exact absurd hs (spl_ne c r)
      | cons p ps => rw [hs] at ih; subst hb; show [] ++ b :: joinS b (p :: ps) = b :: r; rw [ih]; rfl
    · rw [joinS_hd c b _ (spl_ne c r), ih]
/-- A line that is read is the line of its record. -/
theorem parse_line {l : List UInt8} {r : Rec} (h : parseL l = (r, 0)) : RecOk r ∧ lineOf r = l := by
  by_cases hl : (spl 32 l).length = 6
  · obtain ⟨a, k, b, c, d, e, hs⟩ := six_of hl
    rw [parseL_words hs] at h
    have hj := join_spl 32 l
    rw [hs] at hj
    split at h
    · rename_i hf
      split at h
      · rename_i hr
        have hre := congrArg Prod.fst h
        dsimp only at hre
        subst hre
        refine ⟨hr, ?_⟩
        unfold formOK at hf
        simp only [Bool.and_eq_true, decide_eq_true_eq] at hf
        obtain ⟨k1, a1, b1, c1, d1, e1⟩ := hf
        show itoa (nlV a) ++ 32 :: (wordOf (kindOf k : Nat) ++ 32 :: (itoa (nlV b) ++ 32 :: (itoa (nlV c) ++ 32 :: (itoa (nlV d) ++ 32 :: itoa (nlV e))))) = l
        rw [num_itoa a1, num_itoa b1, num_itoa c1, num_itoa d1, num_itoa e1, (word_kind k1).1]
        exact hj
      · have := congrArg Prod.snd h; exact absurd (show (1 : Int) = 0 from this) (by decide)
    · have := congrArg Prod.snd h; exact absurd (show (8 : Int) = 0 from this) (by decide)
  · rw [parseL_else hl] at h
    have := congrArg Prod.snd h; exact absurd (show (8 : Int) = 0 from this) (by decide)
end Go.Proofs.YtlccalkikjfimaaGreatDoor
