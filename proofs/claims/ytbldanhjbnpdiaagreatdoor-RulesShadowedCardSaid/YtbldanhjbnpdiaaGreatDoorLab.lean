/- Names in plain Lean: the runes of a string of bytes (by the model's own decode), letters, folded forms; the folded form of a name tells its folded runes. -/
import Derived.Lib.MapLaws
import Derived.Lib.ValidLaws
namespace Go.Proofs.YtbldanhjbnpdiaaGreatDoor
open Go.Lib

def decs : Nat → List UInt8 → List Nat
  | 0, _ => []
  | n + 1, l => if l = [] then [] else (decodeL l).1 :: decs n (l.drop (decodeL l).2)
/-- The runes of a string; a byte that begins none is 65533. -/
def runesL (l : List UInt8) : List Nat := decs l.length l

theorem decodeL_pos (l : List UInt8) : 1 ≤ (decodeL l).2 := by
  rw [decodeL_N]
  rcases decodeN_shape l.length (l.getD 0 0).toNat (l.getD 1 0).toNat (l.getD 2 0).toNat (l.getD 3 0).toNat with ⟨_, e⟩ | ⟨_, _, _, _, e⟩ | ⟨_, _, _, _, _, _, e⟩ | ⟨_, _, _, _, _, _, _, e⟩ | e <;> rw [e] <;> omega

theorem decs_nil : ∀ n, decs n [] = []
  | 0 => rfl
  | _ + 1 => rfl
theorem decs_fuel : ∀ (n m : Nat) (l : List UInt8), l.length ≤ n → l.length ≤ m → decs n l = decs m l
  | 0, m, l, h, _ => by
    have : l = [] := List.eq_nil_of_length_eq_zero (by omega)
    subst this; rw [decs_nil, decs_nil]
  | n + 1, 0, l, _, h => by
    have : l = [] := List.eq_nil_of_length_eq_zero (by omega)
    subst this; rw [decs_nil, decs_nil]
  | n + 1, m + 1, l, h, h' => by
    unfold decs
    split
    · rfl
    · have hp := decodeL_pos l
      rw [decs_fuel n m (l.drop (decodeL l).2) (by rw [List.length_drop]; omega) (by rw [List.length_drop]; omega)]

theorem runesL_nil : runesL [] = [] := rfl
theorem runesL_step (l : List UInt8) (hne : l ≠ []) : runesL l = (decodeL l).1 :: runesL (l.drop (decodeL l).2) := by
  have hl : 0 < l.length := List.length_pos_iff.2 hne
  have hp := decodeL_pos l
  unfold runesL
  rw [decs_fuel l.length (l.length - 1 + 1) l (Nat.le_refl _) (by omega)]
  conv => lhs; unfold decs
  rw [if_neg hne, decs_fuel (l.length - 1) (l.drop (decodeL l).2).length _ (by rw [List.length_drop]; omega) (Nat.le_refl _)]

theorem runesL_length (l : List UInt8) : (runesL l).length ≤ l.length := by
  suffices ∀ n l, l.length ≤ n → (runesL l).length ≤ l.length from this _ l (Nat.le_refl _)
  intro n
  induction n with
  | zero => intro l h; have : l = [] := List.eq_nil_of_length_eq_zero (by omega); subst this; simp [runesL_nil]
  | succ n ih =>
    intro l h
    by_cases hne : l = []
    · subst hne; simp [runesL_nil]
    · rw [runesL_step l hne]
      have hp := decodeL_pos l
      have hl : 0 < l.length := List.length_pos_iff.2 hne
      have := ih (l.drop (decodeL l).2) (by rw [List.length_drop]; omega)
      rw [List.length_drop] at this
      simp only [List.length_cons]; omega

/-- The program's (*label*) letter, and the reference's. -/
def letterN (r : Nat) : Bool := decide ((97 ≤ r ∧ r ≤ 122) ∨ (65 ≤ r ∧ r ≤ 90) ∨ (48 ≤ r ∧ r ≤ 57) ∨ r = 45 ∨ r = 95 ∨ r = 46 ∨ (161 ≤ r ∧ r ≠ 65533))
def foldN (r : Nat) : Nat := if (65 ≤ r ∧ r ≤ 90) ∨ (192 ≤ r ∧ r ≤ 222 ∧ r ≠ 215) ∨ (913 ≤ r ∧ r ≤ 937 ∧ r ≠ 930) then r + 32 else r
/-- Which strings are names. -/
def nameB (l : List UInt8) : Bool := (runesL l).all letterN && decide (1 ≤ l.length) && decide (l.length ≤ 24)
/-- The folded runes. -/
def foldR (l : List UInt8) : List Nat := (runesL l).map foldN
/-- The folded form. -/
def foldB (l : List UInt8) : List UInt8 := (foldR l).flatMap fun r : Nat => encodeRune (r : Int)

/-- A code point that can be encoded. -/
def scalar (r : Nat) : Prop := r < 55296 ∨ (57344 ≤ r ∧ r ≤ 1114111)

theorem decodeL_scalar (l : List UInt8) : scalar (decodeL l).1 := by
  unfold scalar
  rw [decodeL_N]
  have k0 := (l.getD 0 0).toNat_lt
  have k1 := (l.getD 1 0).toNat_lt
  rcases decodeN_shape l.length (l.getD 0 0).toNat (l.getD 1 0).toNat (l.getD 2 0).toNat (l.getD 3 0).toNat with ⟨_, e⟩ | ⟨_, _, _, _, e⟩ | ⟨_, _, _, _, _, _, e⟩ | ⟨_, _, _, _, _, _, _, e⟩ | e <;> rw [e] <;> dsimp only <;> omega

theorem runesL_scalar (l : List UInt8) : ∀ r ∈ runesL l, scalar r := by
  suffices ∀ n l, l.length ≤ n → ∀ r ∈ runesL l, scalar r from this _ l (Nat.le_refl _)
  intro n
  induction n with
  | zero => intro l h; have : l = [] := List.eq_nil_of_length_eq_zero (by omega); subst this; simp [runesL_nil]
  | succ n ih =>
    intro l h
    by_cases hne : l = []
    · subst hne; simp [runesL_nil]
    · rw [runesL_step l hne]
      have hp := decodeL_pos l
      have hl : 0 < l.length := List.length_pos_iff.2 hne
      intro r hr
      rcases List.mem_cons.1 hr with rfl | hr
      · exact decodeL_scalar l
      · exact ih _ (by rw [List.length_drop]; omega) r hr

theorem foldN_scalar {r : Nat} (h : scalar r) : scalar (foldN r) := by
  unfold scalar foldN at *
  split <;> omega
theorem foldR_scalar (l : List UInt8) : ∀ r ∈ foldR l, scalar r := by
  intro r hr
  obtain ⟨q, hq, rfl⟩ := List.mem_map.1 hr
  exact foldN_scalar (runesL_scalar l q hq)

/-- What is decoded from a rune's encoding is the rune. -/
theorem decode_encodeRune (r : Nat) (h : scalar r) (t : List UInt8) : decodeL (encodeRune (r : Int) ++ t) = (r, (encodeRune (r : Int)).length) := by
  have hb : ∀ z : Int, 0 ≤ z → z < 256 → (z.toNat.toUInt8).toNat = z.toNat := by
    intro z h0 h1
    simp only [Nat.toUInt8, UInt8.toNat_ofNat']
    omega
  rw [decodeL_N]
  unfold scalar at h
  unfold encodeRune
  rcases (show r ≤ 127 ∨ (128 ≤ r ∧ r ≤ 2047) ∨ ((2048 ≤ r ∧ r < 55296) ∨ (57343 < r ∧ r ≤ 65535)) ∨ (65536 ≤ r ∧ r ≤ 1114111) by omega) with h1 | h1 | h1 | h1
  · rw [encodeRuneZ_one (by omega) (by omega)]
    simp only [List.map_cons, List.map_nil, List.cons_append, List.nil_append, List.getD_cons_zero, List.length_cons, List.length_nil]
    rw [hb _ (by omega) (by omega)]
    unfold decodeN
    rw [if_pos (by omega)]
    simp
  · rw [encodeRuneZ_two (by omega) (by omega)]
    simp only [List.map_cons, List.map_nil, List.cons_append, List.nil_append, List.getD_cons_zero, List.getD_cons_succ, List.length_cons, List.length_nil]
    rw [hb _ (by omega) (by omega), hb _ (by omega) (by omega)]
    unfold decodeN
    rw [if_neg (by omega), if_pos (by omega), if_pos (by omega)]
    refine Prod.ext ?_ rfl
    dsimp only
    omega
  · rw [encodeRuneZ_three (by omega)]
    simp only [List.map_cons, List.map_nil, List.cons_append, List.nil_append, List.getD_cons_zero, List.getD_cons_succ, List.length_cons, List.length_nil]
    rw [hb _ (by omega) (by omega), hb _ (by omega) (by omega), hb _ (by omega) (by omega)]
    unfold decodeN
    rw [if_neg (by omega), if_neg (by omega), if_pos (by omega), if_pos (by omega)]
    refine Prod.ext ?_ rfl
    dsimp only
    omega
  · rw [encodeRuneZ_four (by omega) (by omega)]
    simp only [List.map_cons, List.map_nil, List.cons_append, List.nil_append, List.getD_cons_zero, List.getD_cons_succ, List.length_cons, List.length_nil]
    rw [hb _ (by omega) (by omega), hb _ (by omega) (by omega), hb _ (by omega) (by omega), hb _ (by omega) (by omega)]
    unfold decodeN
    rw [if_neg (by omega), if_neg (by omega), if_neg (by omega), if_pos (by omega), if_pos (by omega)]
    refine Prod.ext ?_ rfl
    dsimp only
    omega

theorem encodeRune_ne (r : Int) : encodeRune r ≠ [] := by
  have := runeCells_le r
  rw [runeCells_length] at this
  intro e; rw [e] at this; simp at this

theorem runesL_encoded : ∀ xs : List Nat, (∀ r ∈ xs, scalar r) → runesL (xs.flatMap fun r : Nat => encodeRune (r : Int)) = xs
  | [], _ => rfl
  | r :: xs, h => by
    rw [List.flatMap_cons, runesL_step _ (by simp [encodeRune_ne]), decode_encodeRune r (h r (by simp)), List.drop_left, runesL_encoded xs fun q hq => h q (by simp [hq])]

/-- The folded forms of two strings are equal just if their folded runes are. -/
theorem foldB_inj (a b : List UInt8) : foldB a = foldB b ↔ foldR a = foldR b := by
  constructor
  · intro h
    have := congrArg runesL h
    unfold foldB at this
    rwa [runesL_encoded _ (foldR_scalar a), runesL_encoded _ (foldR_scalar b)] at this
  · intro h; unfold foldB; rw [h]

theorem mapD_runes (f : Int → Int) (g : Nat → Nat) : ∀ (n : Nat) (l : List UInt8), l.length ≤ n → (∀ r ∈ runesL l, f r = (g r : Int)) → mapD f l = ((runesL l).map g).flatMap fun r : Nat => encodeRune (r : Int)
  | 0, l, h, _ => by
    have : l = [] := List.eq_nil_of_length_eq_zero (by omega)
    subst this; rfl
  | n + 1, l, h, hf => by
    by_cases hne : l = []
    · subst hne; rfl
    · have hp := decodeL_pos l
      have hl : 0 < l.length := List.length_pos_iff.2 hne
      rw [runesL_step l hne] at hf
      rw [mapD_step f l hne, runesL_step l hne, List.map_cons, List.flatMap_cons, hf _ (by simp), if_pos (by omega),
        mapD_runes f g n (l.drop (decodeL l).2) (by rw [List.length_drop]; omega) fun r hr => hf r (by simp [hr])]

/-- The mapping that the program hands to strings.Map. -/
def foldZ (z : Int) : Int := if (65 ≤ z ∧ z ≤ 90) ∨ (192 ≤ z ∧ z ≤ 222 ∧ z ≠ 215) ∨ (913 ≤ z ∧ z ≤ 937 ∧ z ≠ 930) then z + 32 else z
theorem foldZ_nat (r : Nat) : foldZ (r : Int) = (foldN r : Int) := by
  unfold foldZ foldN
  by_cases h : (65 ≤ r ∧ r ≤ 90) ∨ (192 ≤ r ∧ r ≤ 222 ∧ r ≠ 215) ∨ (913 ≤ r ∧ r ≤ 937 ∧ r ≠ 930)
  · rw [if_pos h, if_pos (by omega)]; omega
  · rw [if_neg h, if_neg (by omega)]
theorem mapD_fold (l : List UInt8) : mapD foldZ l = foldB l := mapD_runes foldZ foldN _ l (Nat.le_refl _) fun r _ => foldZ_nat r

/-- Folding twice is folding once. -/
theorem foldN_twice (r : Nat) : foldN (foldN r) = foldN r := by
  unfold foldN; split <;> (try split) <;> omega
theorem foldR_foldB (l : List UInt8) : foldR (foldB l) = foldR l := by
  unfold foldR
  unfold foldB
  rw [runesL_encoded _ (foldR_scalar l)]
  unfold foldR
  rw [List.map_map]
  exact List.map_congr_left fun r _ => foldN_twice r
theorem foldB_twice (l : List UInt8) : foldB (foldB l) = foldB l := (foldB_inj _ _).2 (foldR_foldB l)
theorem letterN_fold {r : Nat} (h : letterN r = true) : letterN (foldN r) = true := by
  unfold letterN foldN at *
  simp only [decide_eq_true_eq] at *
  split <;> omega

/-! ### The reference's decoder -/
/-- A rune and its width, or none where no rune is encoded. -/
def refDec (n b0 b1 b2 b3 : Nat) : Option (Nat × Nat) :=
  if b0 < 128 then some (b0, 1)
  else if 194 ≤ b0 ∧ b0 < 224 then
    (if n < 2 ∨ b1 < 128 ∨ 192 ≤ b1 then none else some ((b0 - 192) * 64 + b1 - 128, 2))
  else if 224 ≤ b0 ∧ b0 < 240 then
    (if n < 3 ∨ b1 < 128 ∨ 192 ≤ b1 ∨ b2 < 128 ∨ 192 ≤ b2 then none
     else if ((b0 - 224) * 64 + b1 - 128) * 64 + b2 - 128 < 2048 ∨ (55296 ≤ ((b0 - 224) * 64 + b1 - 128) * 64 + b2 - 128 ∧ ((b0 - 224) * 64 + b1 - 128) * 64 + b2 - 128 < 57344) then none
     else some (((b0 - 224) * 64 + b1 - 128) * 64 + b2 - 128, 3))
  else if 240 ≤ b0 ∧ b0 < 245 then
    (if n < 4 ∨ b1 < 128 ∨ 192 ≤ b1 ∨ b2 < 128 ∨ 192 ≤ b2 ∨ b3 < 128 ∨ 192 ≤ b3 then none
     else if (((b0 - 240) * 64 + b1 - 128) * 64 + b2 - 128) * 64 + b3 - 128 < 65536 ∨ 1114111 < (((b0 - 240) * 64 + b1 - 128) * 64 + b2 - 128) * 64 + b3 - 128 then none
     else some ((((b0 - 240) * 64 + b1 - 128) * 64 + b2 - 128) * 64 + b3 - 128, 4))
  else none
set_option maxRecDepth 100000 in
theorem refDec_eq (n b0 b1 b2 b3 : Nat) (_ : 1 ≤ n) (h0 : b0 < 256) (h1 : b1 < 256) (h2 : b2 < 256) (h3 : b3 < 256) :
    refDec n b0 b1 b2 b3 = if (decodeN n b0 b1 b2 b3).1 = 65533 ∧ (decodeN n b0 b1 b2 b3).2 = 1 then none else some (decodeN n b0 b1 b2 b3) := by
  rcases decodeN_shape n b0 b1 b2 b3 with ⟨_, e⟩ | ⟨_, _, _, _, e⟩ | ⟨_, _, _, _, _, _, e⟩ | ⟨_, _, _, _, _, _, _, e⟩ | e
  · rw [e, if_neg (fun h => by have := h.1; dsimp only at this; omega)]
    unfold refDec
    rw [if_pos (by omega)]
  · rw [e, if_neg (fun h => by have := h.2; dsimp only at this; omega)]
    unfold refDec
    rw [if_neg (by omega), if_pos (by omega), if_neg (by omega)]
    congr 2; omega
  · rw [e, if_neg (fun h => by have := h.2; dsimp only at this; omega)]
    unfold refDec
    rw [if_neg (by omega), if_neg (by omega), if_pos (by omega), if_neg (by omega), if_neg (by omega)]
    congr 2; omega
  · rw [e, if_neg (fun h => by have := h.2; dsimp only at this; omega)]
    unfold refDec
    rw [if_neg (by omega), if_neg (by omega), if_neg (by omega), if_pos (by omega), if_neg (by omega), if_neg (by omega)]
    congr 2; omega
  · rw [e, if_pos ⟨rfl, rfl⟩]
    unfold refDec
    unfold decodeN at e
    by_cases c0 : b0 < 128
    · rw [if_pos c0] at e; simp only [Prod.mk.injEq] at e; omega
    rw [if_neg c0]
    rw [if_neg c0] at e
    by_cases c1 : 194 ≤ b0 ∧ b0 < 224
    · rw [if_pos c1]
      by_cases c : n < 2 ∨ b1 < 128 ∨ 192 ≤ b1
      · rw [if_pos c]
      · exfalso; rw [if_pos (by omega), if_pos (by omega)] at e; simp only [Prod.mk.injEq] at e; omega
    rw [if_neg c1]
    by_cases c2 : 224 ≤ b0 ∧ b0 < 240
    · rw [if_pos c2]
      by_cases c : n < 3 ∨ b1 < 128 ∨ 192 ≤ b1 ∨ b2 < 128 ∨ 192 ≤ b2
      · rw [if_pos c]
      · rw [if_neg c]
        by_cases d : ((b0 - 224) * 64 + b1 - 128) * 64 + b2 - 128 < 2048 ∨ (55296 ≤ ((b0 - 224) * 64 + b1 - 128) * 64 + b2 - 128 ∧ ((b0 - 224) * 64 + b1 - 128) * 64 + b2 - 128 < 57344)
        · rw [if_pos d]
        · exfalso; rw [if_neg (by omega), if_pos (by omega), if_pos (by omega)] at e; simp only [Prod.mk.injEq] at e; omega
    rw [if_neg c2]
    by_cases c3 : 240 ≤ b0 ∧ b0 < 245
    · rw [if_pos c3]
      by_cases c : n < 4 ∨ b1 < 128 ∨ 192 ≤ b1 ∨ b2 < 128 ∨ 192 ≤ b2 ∨ b3 < 128 ∨ 192 ≤ b3
      · rw [if_pos c]
      · rw [if_neg c]
        by_cases d : (((b0 - 240) * 64 + b1 - 128) * 64 + b2 - 128) * 64 + b3 - 128 < 65536 ∨ 1114111 < (((b0 - 240) * 64 + b1 - 128) * 64 + b2 - 128) * 64 + b3 - 128
        · rw [if_pos d]
        · exfalso; rw [if_neg (by omega), if_neg (by omega), if_pos (by omega), if_pos (by omega)] at e; simp only [Prod.mk.injEq] at e; omega
    rw [if_neg c3]
end Go.Proofs.YtbldanhjbnpdiaaGreatDoor
