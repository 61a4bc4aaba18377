/- Patterns in plain Lean: what is left of a pattern without its stars. -/
import Derived.Test.YtapingmjlpmmmaaDoorLbM
import Derived.Lib.ReplaceLaws
import Derived.Lib.SplitLaws
import Derived.Lib.ValidLaws
namespace Go.Proofs.YtapingmjlpmmmaaDoor
open Go.Lib

theorem repl_ne (b c : UInt8) (l : List UInt8) (h : b ≠ c) : ∀ k, replaceK [c] [] k (b :: l) = b :: replaceK [c] [] k l
  | 0 => rfl
  | k + 1 => by
    have hp : ([c] : List UInt8).isPrefixOf (b :: l) = false := by simp [List.isPrefixOf, Ne.symm h]
    have hix : index (b :: l) [c] = if index l [c] == -1 then -1 else index l [c] + 1 := by rw [index, hp]; simp
    by_cases hm : index l [c] = -1
    · have h1 : index (b :: l) [c] = -1 := by rw [hix, if_pos (beq_iff_eq.2 hm)]
      unfold replaceK
      rw [if_pos (beq_iff_eq.2 h1), if_pos (beq_iff_eq.2 hm)]
    · have hge := index_ge l [c]
      obtain ⟨j, hj⟩ : ∃ j : Nat, index l [c] = j := ⟨(index l [c]).toNat, by omega⟩
      have hix' : index (b :: l) [c] = ((j + 1 : Nat) : Int) := by rw [hix, if_neg (fun e => hm (beq_iff_eq.1 e)), hj]; omega
      rw [replaceK_hit _ _ _ _ _ hix', replaceK_hit _ _ _ _ _ hj]
      simp
theorem repl_eq (c : UInt8) (l : List UInt8) (k : Nat) : replaceK [c] [] (k + 1) (c :: l) = replaceK [c] [] k l := by
  have hix : index (c :: l) [c] = ((0 : Nat) : Int) := by rw [index]; simp [List.isPrefixOf]
  rw [replaceK_hit _ _ _ _ _ hix]
  simp
theorem repl_filter (c : UInt8) : ∀ (l : List UInt8) (k : Nat), l.count c ≤ k → replaceK [c] [] k l = l.filter fun b => decide (b ≠ c)
  | [], 0, _ => rfl
  | [], k + 1, _ => by
    have : index [] [c] = -1 := rfl
    unfold replaceK
    rw [if_pos (beq_iff_eq.2 this)]; rfl
  | b :: l, k, h => by
    by_cases hb : b = c
    · subst hb
      rw [List.count_cons_self] at h
      obtain ⟨m, rfl⟩ : ∃ m, k = m + 1 := ⟨k - 1, by omega⟩
      rw [repl_eq, repl_filter b l m (by omega)]
      simp
    · rw [repl_ne b c l hb, repl_filter c l k (by rw [List.count_cons_of_ne (by simpa using hb)] at h; exact h)]
      simp [hb]
theorem replaceAll_filter (c : UInt8) (l : List UInt8) : replaceAll l [c] [] = l.filter fun b => decide (b ≠ c) := by
  unfold replaceAll replace
  rw [if_neg (by simp)]
  exact repl_filter c l _ (by unfold replaceNum; rw [if_pos (by omega), count_one]; exact Nat.le_refl _)

theorem enc_no_star (r : Nat) (hr : scalar r) (h : r ≠ 42) : ∀ b ∈ encodeRune (r : Int), b ≠ 42 := by
  unfold scalar at hr
  have hb : ∀ z : Int, 0 ≤ z → z < 256 → z ≠ 42 → (z.toNat.toUInt8) ≠ 42 := by
    intro z h0 h1 h2 e
    have := congrArg UInt8.toNat e
    simp only [Nat.toUInt8, UInt8.toNat_ofNat'] at this
    have e42 : (42 : UInt8).toNat = 42 := rfl
    omega
  intro b hbm
  unfold encodeRune at hbm
  obtain ⟨z, hz, rfl⟩ := List.mem_map.1 hbm
  have hby := encodeRuneZ_byte (r : Int) z hz
  refine hb z hby.1 hby.2 ?_
  rcases (show r ≤ 127 ∨ (128 ≤ r ∧ r ≤ 2047) ∨ ((2048 ≤ r ∧ r < 55296) ∨ (57343 < r ∧ r ≤ 65535)) ∨ (65536 ≤ r ∧ r ≤ 1114111) by omega) with h1 | h1 | h1 | h1
  · rw [encodeRuneZ_one (by omega) (by omega)] at hz
    simp at hz; omega
  · rw [encodeRuneZ_two (by omega) (by omega)] at hz
    simp at hz; omega
  · rw [encodeRuneZ_three (by omega)] at hz
    simp at hz; omega
  · rw [encodeRuneZ_four (by omega) (by omega)] at hz
    simp at hz; omega

/-- Of valid UTF-8 without the stars the runes are those that are no star. -/
theorem runes_filter : ∀ (n : Nat) (l : List UInt8), l.length ≤ n → validD l = true → runesL (l.filter fun b => decide (b ≠ 42)) = (runesL l).filter fun r => decide (r ≠ 42)
  | 0, l, h, _ => by
    have : l = [] := List.eq_nil_of_length_eq_zero (by omega)
    subst this; rfl
  | n + 1, l, h, hv => by
    by_cases hne : l = []
    · subst hne; rfl
    · have hp := decodeL_pos l
      have hl : 0 < l.length := List.length_pos_iff.2 hne
      rw [validD_step l hne] at hv
      split at hv
      · cases hv
      · rename_i hok
        have he := encode_decode l hne hok
        have hsc := decodeL_scalar l
        have ih := runes_filter n (l.drop (decodeL l).2) (by rw [List.length_drop]; omega) hv
        rw [runesL_step l hne, List.filter_cons]
        have hsp : l = encodeRune ((decodeL l).1 : Int) ++ l.drop (decodeL l).2 := by rw [he, List.take_append_drop]
        generalize (decodeL l).1 = r at *
        generalize l.drop (decodeL l).2 = t at *
        rw [hsp, List.filter_append]
        by_cases h42 : r = 42
        · subst h42
          rw [if_neg (by simp), ← ih]
          rfl
        · rw [if_pos (by simpa using h42)]
          rw [List.filter_eq_self.2 fun b hb => by simpa using enc_no_star r hsc h42 b hb]
          rw [runesL_step _ (by simp [encodeRune_ne]), decode_encodeRune r hsc, List.drop_left, ih]

/-- A rune of a pattern. -/
def starN (r : Nat) : Bool := decide (r = 42) || letterN r
/-- Which strings are patterns. -/
def patB (l : List UInt8) : Bool := validD l && decide (1 ≤ l.length) && decide (l.length ≤ 24) && (runesL l).all starN
theorem rest_pat (l : List UInt8) (hv : validD l = true) (hl : l.length ≤ 24) : (decide ((l.filter fun b => decide (b ≠ 42)) = []) || nameB (l.filter fun b => decide (b ≠ 42))) = (runesL l).all starN := by
  have h1 := runes_filter _ l (Nat.le_refl _) hv
  have h2 : ((runesL l).filter fun r => decide (r ≠ 42)).all letterN = (runesL l).all starN := by
    rw [List.all_filter]
    congr 1
    funext r
    unfold starN
    by_cases h : r = 42 <;> simp [h]
  have hlen : (l.filter fun b => decide (b ≠ 42)).length ≤ 24 := Nat.le_trans (List.length_filter_le _ _) hl
  generalize (l.filter fun b => decide (b ≠ 42)) = t at *
  unfold nameB
  rw [h1, h2]
  by_cases ht : t = []
  · subst ht
    rw [← h2, ← h1]
    simp [runesL_nil]
  · have : 1 ≤ t.length := by
      rcases t with _ | ⟨a, t⟩
      · exact absurd rfl ht
      · simp
    rw [decide_eq_false ht, decide_eq_true this, decide_eq_true hlen]
    simp
theorem foldN_star (r : Nat) : foldN r = 42 ↔ r = 42 := by
  unfold foldN; split <;> omega
/-- Which names a pattern matches. -/
def matchB (p s : List UInt8) : Bool := patB p && nameB s && lk (foldR p) (foldR s)
end Go.Proofs.YtapingmjlpmmmaaDoor
