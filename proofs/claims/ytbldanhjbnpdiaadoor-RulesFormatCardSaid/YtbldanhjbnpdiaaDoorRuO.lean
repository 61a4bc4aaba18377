/- Rules, plain: what is formatted is parsed back. -/
import Derived.Test.YtbldanhjbnpdiaaDoorRuL
namespace Go.Proofs.YtbldanhjbnpdiaaDoor
open Go.Lib
theorem digB_dig {n : Nat} (h : n < 10) : digB (UInt8.ofNat (48 + n)) = true := by
  have : ∀ i : Fin 10, digB (UInt8.ofNat (48 + i.val)) = true := by decide
  exact this ⟨n, h⟩
theorem val_dig {n : Nat} (h : n < 10) : (UInt8.ofNat (48 + n)).toNat - 48 = n := by
  have : ∀ i : Fin 10, (UInt8.ofNat (48 + i.val)).toNat - 48 = i.val := by decide
  exact this ⟨n, h⟩
theorem dec_lt {n : Nat} (h : n < 10) : decDigits n = dig n := by rw [decDigits, dif_pos h]; rfl
theorem dec_ge {n : Nat} (h : ¬ n < 10) : decDigits n = decDigits (n / 10) ++ dig (n % 10) := by
  conv => lhs; rw [decDigits, dif_neg h]
  rfl
theorem dec_digs : ∀ (k n : Nat), n < k → (decDigits n).all digB = true ∧ valFrom 0 (decDigits n) = n ∧ 1 ≤ (decDigits n).length ∧ (1 < (decDigits n).length → (decDigits n).head? ≠ some 48) ∧ (0 < n → (decDigits n).head? ≠ some 48)
  | 0, n, h => by omega
  | k + 1, n, h => by
    by_cases h10 : n < 10
    · rw [dec_lt h10]
      unfold dig
      refine ⟨?_, ?_, by simp, by simp, ?_⟩
      · show (digB (UInt8.ofNat (48 + n)) && true) = true
        rw [digB_dig h10]; rfl
      · show 0 * 10 + _ = n
        rw [val_dig h10]; omega
      · intro h0 e
        have e1 := congrArg UInt8.toNat (Option.some.inj e)
        have e2 := val_dig h10
        rw [e1] at e2
        have : (48 : UInt8).toNat = 48 := rfl
        omega
    · rw [dec_ge h10]
      obtain ⟨i1, i2, i3, i4, i5⟩ := dec_digs k (n / 10) (by omega)
      have hm : n % 10 < 10 := by omega
      have hh : (decDigits (n / 10) ++ dig (n % 10)).head? = (decDigits (n / 10)).head? := by
        cases hd : decDigits (n / 10) with
        | nil => rw [hd] at i3; simp at i3
        | cons b r => rfl
      refine ⟨?_, ?_, ?_, ?_, ?_⟩
      · rw [List.all_append, i1]
        show (true && (digB (UInt8.ofNat (48 + n % 10)) && true)) = true
        rw [digB_dig hm]; rfl
      · unfold dig
        rw [valFrom_snoc, i2, val_dig hm]; omega
      · rw [List.length_append]; omega
      · intro _; rw [hh]; exact i5 (by omega)
      · intro _; rw [hh]; exact i5 (by omega)
theorem dec_len5 {n : Nat} (h : n ≤ 65535) : (decDigits n).length ≤ 5 := by
  have l1 : ∀ m, m < 10 → (decDigits m).length = 1 := fun m hm => by rw [dec_lt hm]; rfl
  have st : ∀ m k, (∀ x, x < 10 ^ k → (decDigits x).length ≤ k) → 1 ≤ k → m < 10 ^ (k + 1) → (decDigits m).length ≤ k + 1 := fun m k hk h1 hm => by
    by_cases h10 : m < 10
    · rw [l1 m h10]; omega
    · rw [dec_ge h10, List.length_append]
      have := hk (m / 10) (by rw [Nat.pow_succ] at hm; omega)
      show _ + 1 ≤ _
      omega
  have h1 : ∀ x, x < 10 ^ 1 → (decDigits x).length ≤ 1 := fun x hx => Nat.le_of_eq (l1 x (by simpa using hx))
  have h2 := fun x => st x 1 h1 (by omega)
  have h3 := fun x => st x 2 h2 (by omega)
  have h4 := fun x => st x 3 h3 (by omega)
  exact st n 4 h4 (by omega) (by omega)
theorem decI_num {n : Int} (h0 : 0 ≤ n) (h1 : n ≤ 65535) : numOK 5 (decI n) = true ∧ numV 5 (decI n) = n.toNat ∧ (decI n).all digB = true := by
  obtain ⟨i1, i2, i3, i4, _⟩ := dec_digs (n.toNat + 1) n.toNat (by omega)
  have i5 := dec_len5 (n := n.toNat) (by omega)
  have hok : numOK 5 (decI n) = true := numOK_good i3 i5 (fun h => by rw [← List.head?_eq_getElem?] at h; exact i4 h.1 h.2) i1
  exact ⟨hok, by unfold numV; rw [if_pos hok]; exact i2, i1⟩
theorem not_of_digs {l : List UInt8} (h : l.all digB = true) {b : UInt8} (hb : digB b = false) : b ∉ l := by
  intro hm
  rw [List.all_eq_true] at h
  have := h b hm
  rw [hb] at this; cases this
theorem cut_mid : ∀ (x y : List UInt8), 45 ∉ x → cutP (x ++ 45 :: y) = (x, y, true)
  | [], y, _ => cut_self y
  | b :: x, y, h => by
    simp only [List.mem_cons, not_or] at h
    rw [List.cons_append, cut_other (Ne.symm h.1), cut_mid x y h.2]
theorem cut_none (l : List UInt8) (h : 45 ∉ l) : cutP l = (l, [], false) := cut_not l fun k hk e => h (List.mem_of_getElem? e)
theorem poW_ports {r : Ru} (h : ruOK r = true) : portF (poW r) = r.first.toNat ∧ portL (poW r) = r.last.toNat ∧ portOK (poW r) = true ∧ 32 ∉ poW r := by
  have hq := ruOK_iff h
  obtain ⟨a1, a2, a3⟩ := decI_num (n := r.first) (by omega) (by omega)
  obtain ⟨b1, b2, b3⟩ := decI_num (n := r.last) (by omega) (by omega)
  have m1 : 45 ∉ decI r.first := not_of_digs a3 rfl
  have s1 : 32 ∉ decI r.first := not_of_digs a3 rfl
  have s2 : 32 ∉ decI r.last := not_of_digs b3 rfl
  have t1 : 42 ∉ decI r.first := not_of_digs a3 rfl
  unfold poW
  by_cases g1 : r.first = 0 ∧ r.last = 65535
  · rw [if_pos g1, g1.1, g1.2]
    exact ⟨rfl, rfl, rfl, by decide⟩
  rw [if_neg g1]
  by_cases g2 : r.first ≠ r.last
  · rw [if_pos g2]
    have hne : ¬ (decI r.first ++ 45 :: decI r.last) = [42] := by
      intro e
      have h1 := congrArg List.length e
      rw [List.length_append, List.length_cons] at h1
      have := (numOK_len a1).1
      simp at h1; omega
    unfold portF portL portOK
    rw [if_neg hne, if_neg hne, decide_eq_false hne, cut_mid _ _ m1]
    refine ⟨a2, ?_, ?_, ?_⟩
    · rw [if_pos rfl]; exact b2
    · rw [a1, b1]; rfl
    · simp [s1, s2]
  · rw [if_neg g2]
    have hne : ¬ decI r.first = [42] := fun e => t1 (by rw [e]; simp)
    have hfl : r.first = r.last := Decidable.of_not_not g2
    unfold portF portL portOK
    rw [if_neg hne, if_neg hne, decide_eq_false hne, cut_none _ m1]
    refine ⟨a2, ?_, ?_, s1⟩
    · show (if false = true then _ else numV 5 (decI r.first)) = _
      rw [if_neg Bool.false_ne_true, ← hfl]; exact a2
    · rw [a1]; rfl
/-- What is formatted is parsed back. -/
theorem round_trip {r : Ru} (h : ruOK r = true) (hsp : 32 ∉ r.st) (hstar : r.st ≠ [42]) : parseR (fmtR r) = (r, 0) := by
  have hq := ruOK_iff h
  obtain ⟨p1, p2, p3, p4⟩ := poW_ports h
  obtain ⟨y1, y2, y3⟩ := decI_num (n := r.flow) (by omega) (by omega)
  have s4 : 32 ∉ (62 : UInt8) :: decI r.flow := by
    simp only [List.mem_cons, not_or]
    exact ⟨by decide, not_of_digs y3 rfl⟩
  have s1 : 32 ∉ stW r := by unfold stW; split; · decide
                             · exact hsp
  have c42 : (clW r = [42] ∧ r.cls = -1) ∨ (¬ clW r = [42] ∧ numOK 5 (clW r) = true ∧ numV 5 (clW r) = r.cls.toNat ∧ 0 ≤ r.cls ∧ 32 ∉ clW r) := by
    unfold clW
    by_cases hc : 0 ≤ r.cls
    · obtain ⟨c1, c2, c3⟩ := decI_num hc (by omega)
      rw [if_pos hc]
      exact .inr ⟨fun e => not_of_digs c3 (b := 42) rfl (by rw [e]; simp), c1, c2, hc, not_of_digs c3 rfl⟩
    · rw [if_neg hc]; exact .inl ⟨rfl, by omega⟩
  have s2 : 32 ∉ clW r := by
    rcases c42 with ⟨e, _⟩ | ⟨_, _, _, _, e⟩
    · rw [e]; decide
    · exact e
  have hw : spl 32 (fmtR r) = [stW r, clW r, poW r, 62 :: decI r.flow] := by
    have e : fmtR r = stW r ++ 32 :: (clW r ++ 32 :: (poW r ++ 32 :: (62 :: decI r.flow))) := by unfold fmtR; simp
    rw [e, spl_append _ s1, spl_append _ s2, spl_append _ p4, spl_none s4]
  have hne : ¬ stW r = [] := by
    have := (stW_len h).1
    intro e; rw [e] at this; simp at this
  have hst : (if stW r = [42] then [] else stW r) = r.st := by
    unfold stW
    by_cases h0 : r.st = []
    · rw [if_pos h0, if_pos rfl, h0]
    · rw [if_neg h0, if_neg hstar]
  have hcl : (if clW r = [42] then (-1 : Int) else (numV 5 (clW r) : Nat)) = r.cls := by
    rcases c42 with ⟨e, e2⟩ | ⟨e, _, e2, e3, _⟩
    · rw [if_pos e, e2]
    · rw [if_neg e, e2]; omega
  have hr : ruOf (stW r) (clW r) (poW r) (62 :: decI r.flow) = r := by
    unfold ruOf
    rw [hst, hcl, p1, p2]
    show (⟨r.st, r.cls, (r.first.toNat : Int), (r.last.toNat : Int), ((numV 5 (decI r.flow) : Nat) : Int)⟩ : Ru) = r
    rw [y2]
    obtain ⟨st, c, f, l, y⟩ := r
    dsimp only at hq
    simp only [Ru.mk.injEq, true_and]
    exact ⟨by omega, by omega, by omega⟩
  have hwo : wordsOK (stW r) (clW r) (poW r) (62 :: decI r.flow) = true := by
    unfold wordsOK
    rw [decide_eq_false hne, p3]
    show (!false && (decide (clW r = [42]) || numOK 5 (clW r)) && true && true && numOK 5 (decI r.flow)) = true
    rw [y1]
    rcases c42 with ⟨e, _⟩ | ⟨_, e, _⟩
    · rw [decide_eq_true e]; rfl
    · rw [e, Bool.or_true]; rfl
  have hp : parseR (fmtR r) = if wordsOK (stW r) (clW r) (poW r) (62 :: decI r.flow) then (if ruOK (ruOf (stW r) (clW r) (poW r) (62 :: decI r.flow)) then (ruOf (stW r) (clW r) (poW r) (62 :: decI r.flow), 0) else (ru0, 1)) else (ru0, 8) := by
    unfold parseR; rw [hw]
  rw [hp, hwo, hr, h]
  rfl
end Go.Proofs.YtbldanhjbnpdiaaDoor
