/- A ledger of lags, plain: the distribution of an amount by weights, and the operations. -/
import Derived.Test.YtalkmeclkjnjnaaTgN
namespace Go.Proofs.Ytalkmeclkjnjnaa

def ab (x : Int) : Int := max x (-x)
def sumI (l : List Int) : Int := l.foldr (· + ·) 0
theorem sumI_nil : sumI [] = 0 := rfl
theorem sumI_cons (x : Int) (l : List Int) : sumI (x :: l) = x + sumI l := rfl
theorem sumI_append : ∀ l m : List Int, sumI (l ++ m) = sumI l + sumI m
  | [], m => by rw [List.nil_append, sumI_nil]; omega
  | x :: l, m => by rw [List.cons_append, sumI_cons, sumI_cons, sumI_append l m]; omega

/-! ### Shares by weights, truncated toward zero; what is left goes to the first -/
def truncs (a T : Int) (W : List Int) : List Int := W.map fun w => (a * w).tdiv T
def addHd (x : Int) : List Int → List Int
  | [] => []
  | q :: l => (q + x) :: l
def lagSplit (a : Int) (W : List Int) : List Int := addHd (a - sumI (truncs a (sumI W) W)) (truncs a (sumI W) W)

theorem addHd_len (x : Int) : ∀ l, (addHd x l).length = l.length
  | [] => rfl
  | _ :: _ => rfl
theorem lagSplit_len (a : Int) (W : List Int) : (lagSplit a W).length = W.length := by
  unfold lagSplit truncs; rw [addHd_len, List.length_map]
theorem lagSplit_sum (a : Int) {W : List Int} (h : W ≠ []) : sumI (lagSplit a W) = a := by
  unfold lagSplit
  obtain ⟨q, l, e⟩ : ∃ q l, truncs a (sumI W) W = q :: l := by
    cases W with
    | nil => exact absurd rfl h
    | cons w W => exact ⟨_, _, rfl⟩
  rw [e, addHd, sumI_cons, sumI_cons]; omega

theorem truncs_bound (a T : Int) (ha : 0 ≤ a) (hT : 0 < T) : ∀ W : List Int, (∀ w ∈ W, 0 ≤ w) → (∀ q ∈ truncs a T W, 0 ≤ q) ∧ sumI (truncs a T W) * T ≤ a * sumI W
  | [], _ => ⟨(by intro q hq; cases hq), (by simp [truncs, sumI])⟩
  | w :: W, hW => by
    obtain ⟨h1, h2⟩ := truncs_bound a T ha hT W fun v hv => hW v (by simp [hv])
    have hw := hW w (by simp)
    have hp : 0 ≤ a * w := Int.mul_nonneg ha hw
    have hq : 0 ≤ (a * w).tdiv T := Int.tdiv_nonneg hp (Int.le_of_lt hT)
    have hm : (a * w).tdiv T * T ≤ a * w := by
      rw [Int.tdiv_eq_ediv_of_nonneg hp]
      exact Int.ediv_mul_le _ (by omega)
    constructor
    · intro q hq'
      rcases List.mem_cons.1 hq' with rfl | h
      · exact hq
      · exact h1 q h
    · show sumI ((a * w).tdiv T :: truncs a T W) * T ≤ a * sumI (w :: W)
      rw [sumI_cons, sumI_cons, Int.add_mul, Int.mul_add]
      omega
theorem truncs_neg (a T : Int) (W : List Int) : truncs (-a) T W = (truncs a T W).map fun q => -q := by
  unfold truncs
  rw [List.map_map]
  refine List.map_congr_left fun w _ => ?_
  show (-a * w).tdiv T = -((a * w).tdiv T)
  rw [Int.neg_mul, Int.neg_tdiv]
theorem sumI_neg : ∀ l : List Int, sumI (l.map fun q => -q) = - sumI l
  | [] => rfl
  | x :: l => by rw [List.map_cons, sumI_cons, sumI_cons, sumI_neg l]; omega
theorem addHd_neg (x : Int) (l : List Int) : addHd (-x) (l.map fun q => -q) = (addHd x l).map fun q => -q := by
  cases l with
  | nil => rfl
  | cons q l =>
    show (-q + -x) :: _ = -(q + x) :: _
    rw [show -q + -x = -(q + x) by omega]
theorem lagSplit_neg (a : Int) (W : List Int) : lagSplit (-a) W = (lagSplit a W).map fun q => -q := by
  unfold lagSplit
  rw [truncs_neg, sumI_neg, show -a - -sumI (truncs a (sumI W) W) = -(a - sumI (truncs a (sumI W) W)) by omega, addHd_neg]
theorem sumI_pos : ∀ {W : List Int}, W ≠ [] → (∀ w ∈ W, 1 ≤ w) → 0 < sumI W
  | [], h, _ => absurd rfl h
  | [w], _, h => by have := h w (by simp); rw [sumI_cons, sumI_nil]; omega
  | w :: v :: W, _, h => by
    have := h w (by simp)
    have := sumI_pos (W := v :: W) (by simp) fun u hu => h u (by simp [hu])
    rw [sumI_cons]; omega
theorem lagSplit_nonneg {a : Int} (ha : 0 ≤ a) {W : List Int} (hW : ∀ w ∈ W, 1 ≤ w) : ∀ q ∈ lagSplit a W, 0 ≤ q := by
  cases W with
  | nil => intro q hq; cases hq
  | cons w0 W0 =>
    have hT := sumI_pos (W := w0 :: W0) (by simp) hW
    generalize hWW : w0 :: W0 = W at *
    obtain ⟨h1, h2⟩ := truncs_bound a (sumI W) ha hT W fun w hw => by have := hW w hw; omega
    have h3 := Int.le_of_mul_le_mul_right h2 hT
    unfold lagSplit
    generalize truncs a (sumI W) W = Q at *
    cases Q with
    | nil => intro q hq; cases hq
    | cons q0 Q0 =>
      intro q hq
      rcases List.mem_cons.1 hq with rfl | h
      · have := h1 q0 (by simp); omega
      · exact h1 q (by simp [h])
theorem sumI_ab_nonneg : ∀ l : List Int, (∀ q ∈ l, 0 ≤ q) → sumI (l.map ab) = sumI l
  | [], _ => rfl
  | x :: l, h => by
    have hx := h x (by simp)
    rw [List.map_cons, sumI_cons, sumI_cons, sumI_ab_nonneg l fun q hq => h q (by simp [hq])]
    unfold ab; omega
theorem ab_neg (x : Int) : ab (-x) = ab x := by unfold ab; omega
theorem lagSplit_abs (a : Int) {W : List Int} (hW : ∀ w ∈ W, 1 ≤ w) : sumI ((lagSplit a W).map ab) ≤ ab a := by
  by_cases hn : W = []
  · subst hn; show (0 : Int) ≤ _; unfold ab; omega
  have key : ∀ b : Int, 0 ≤ b → sumI ((lagSplit b W).map ab) ≤ ab b := by
    intro b hb
    rw [sumI_ab_nonneg _ (lagSplit_nonneg hb hW), lagSplit_sum b hn]; unfold ab; omega
  by_cases ha : 0 ≤ a
  · exact key a ha
  · have := key (-a) (by omega)
    have e := lagSplit_neg (-a) W
    rw [Int.neg_neg] at e
    rw [e, List.map_map, show (ab ∘ fun q => -q) = ab from funext ab_neg]
    rw [ab_neg] at this
    exact this
theorem ab_nonneg (x : Int) : 0 ≤ ab x := by unfold ab; omega
theorem sumI_ab_mem : ∀ {l : List Int} {x : Int}, x ∈ l → ab x ≤ sumI (l.map ab)
  | y :: l, x, h => by
    rw [List.map_cons, sumI_cons]
    have h0 : ∀ l : List Int, 0 ≤ sumI (l.map ab) := fun l => by
      induction l with
      | nil => exact Int.le_refl _
      | cons z l ih => rw [List.map_cons, sumI_cons]; have := ab_nonneg z; omega
    rcases List.mem_cons.1 h with rfl | h
    · have := h0 l; omega
    · have := sumI_ab_mem h; have := ab_nonneg y; omega

/-! ### A ledger -/
def lags (L : List Tg) : List Int := L.map (·.s)
def wts (L : List Tg) : List Int := L.map (·.w)
def sumS (L : List Tg) : Int := sumI (lags L)
def absS (L : List Tg) : Int := sumI ((lags L).map ab)
theorem absS_mem {L : List Tg} {t : Tg} (h : t ∈ L) : ab t.s ≤ absS L := sumI_ab_mem (List.mem_map.2 ⟨t, h, rfl⟩)
theorem absS_nonneg (L : List Tg) : 0 ≤ absS L := by
  unfold absS
  generalize lags L = l
  induction l with
  | nil => exact Int.le_refl _
  | cons z l ih => rw [List.map_cons, sumI_cons]; have := ab_nonneg z; omega
theorem absS_cons (t : Tg) (L : List Tg) : absS (t :: L) = ab t.s + absS L := rfl
theorem sumS_cons (t : Tg) (L : List Tg) : sumS (t :: L) = t.s + sumS L := rfl

/-- The lags with a list of numbers added. -/
def addS : List Tg → List Int → List Tg
  | t :: L, x :: l => ⟨t.f, t.w, t.s + x⟩ :: addS L l
  | L, _ => L
theorem addS_nil (L : List Tg) : addS L [] = L := by cases L <;> rfl
theorem addS_cons (t : Tg) (L : List Tg) (x : Int) (l : List Int) : addS (t :: L) (x :: l) = ⟨t.f, t.w, t.s + x⟩ :: addS L l := rfl
theorem addS_len : ∀ (L : List Tg) (l : List Int), (addS L l).length = L.length
  | [], _ => by cases ‹List Int› <;> rfl
  | _ :: _, [] => rfl
  | t :: L, x :: l => by rw [addS_cons, List.length_cons, addS_len L l, List.length_cons]
theorem addS_fw : ∀ (L : List Tg) (l : List Int), (addS L l).map (fun t => (t.f, t.w)) = L.map fun t => (t.f, t.w)
  | [], l => by cases l <;> rfl
  | _ :: _, [] => rfl
  | t :: L, x :: l => by rw [addS_cons, List.map_cons, addS_fw L l, List.map_cons]
theorem addS_sum : ∀ (L : List Tg) (l : List Int), L.length = l.length → sumS (addS L l) = sumS L + sumI l
  | [], [], _ => rfl
  | t :: L, x :: l, h => by
    rw [addS_cons, sumS_cons, sumS_cons, sumI_cons, addS_sum L l (by simpa using h)]
    show t.s + x + _ = _
    omega
theorem addS_abs : ∀ (L : List Tg) (l : List Int), absS (addS L l) ≤ absS L + sumI (l.map ab)
  | L, [] => by rw [addS_nil]; show _ ≤ _ + 0; omega
  | [], x :: l => by
    show absS [] ≤ _
    have : ∀ m : List Int, 0 ≤ sumI (m.map ab) := fun m => by
      induction m with
      | nil => exact Int.le_refl _
      | cons z m ih => rw [List.map_cons, sumI_cons]; have := ab_nonneg z; omega
    have := this (x :: l); omega
  | t :: L, x :: l => by
    rw [addS_cons, absS_cons, absS_cons, List.map_cons, sumI_cons]
    have := addS_abs L l
    show ab (t.s + x) + _ ≤ _
    have : ab (t.s + x) ≤ ab t.s + ab x := by unfold ab; omega
    omega

/-- What is the same but for the lags. -/
theorem NOk.ofFw {L L' : List Tg} (h : NOk L) (e : L'.map (fun t => (t.f, t.w)) = L.map fun t => (t.f, t.w)) : NOk L' := by
  have ef : L'.map (·.f) = L.map (·.f) := by
    have := congrArg (List.map Prod.fst) e
    rw [List.map_map, List.map_map] at this
    exact this
  refine ⟨?_, fun t ht => ?_⟩
  · rw [asc_iff, ef, ← asc_iff]; exact h.asc
  · have : (t.f, t.w) ∈ L'.map (fun t => (t.f, t.w)) := List.mem_map.2 ⟨t, ht, rfl⟩
    rw [e] at this
    obtain ⟨u, hu, hfw⟩ := List.mem_map.1 this
    have := h.rng u hu
    rw [Prod.mk.injEq] at hfw
    rw [← hfw.1, ← hfw.2]; exact this

/-! ### The operations: the result and the ledger after it -/
def nJoin (L : List Tg) (f w : Int) : Int × List Tg :=
  if f < 0 ∨ 32 ≤ f ∨ w < 1 ∨ 16 < w then (1, L) else if (fget L f).isSome then (7, L) else (0, insT ⟨f, w, 0⟩ L)
def nSetw (L : List Tg) (f w : Int) : Int × List Tg :=
  match fget L f with
  | none => (6, L)
  | some t => if w < 1 ∨ 16 < w then (1, L) else (0, setT ⟨f, w, t.s⟩ L)
def nMove (L : List Tg) (c s n : Int) : Int × List Tg :=
  match fget L c, fget L s with
  | some a, some b =>
    if n < 1 ∨ 4096 < n then (1, L) else if c = s then (0, L)
    else if 1099511627776 < a.s + n ∨ 1099511627776 < b.s - n ∨ a.s + n < -1099511627776 ∨ b.s - n < -1099511627776 then (2, L)
    else (0, setT ⟨s, b.w, b.s - n⟩ (setT ⟨c, a.w, a.s + n⟩ L))
  | _, _ => (6, L)
def nLeave (L : List Tg) (f : Int) : (Int × Int) × List Tg :=
  match fget L f with
  | none => ((0, 6), L)
  | some t => ((t.s, 0), addS (delT f L) (lagSplit t.s (wts (delT f L))))

/-- A ledger whose lags are at most 8192 times N in all. -/
structure LgOk (N : Nat) (L : List Tg) : Prop where
  ok : NOk L
  sm : absS L ≤ 8192 * (N : Int)
theorem LgOk.start : LgOk 0 [] := ⟨⟨.nil, by simp⟩, Int.le_refl _⟩
theorem LgOk.le {N M : Nat} {L : List Tg} (h : LgOk N L) (hm : N ≤ M) : LgOk M L := ⟨h.ok, by have := h.sm; omega⟩
theorem LgOk.lag {N : Nat} {L : List Tg} (h : LgOk N L) {t : Tg} (ht : t ∈ L) : -(8192 * (N : Int)) ≤ t.s ∧ t.s ≤ 8192 * (N : Int) := by
  have h1 := absS_mem ht
  have h2 := h.sm
  unfold ab at h1; omega
theorem insT_abs (x : Tg) : ∀ L : List Tg, absS (insT x L) = ab x.s + absS L
  | [] => rfl
  | a :: L => by
    unfold insT
    split
    · rw [absS_cons, insT_abs x L, absS_cons]; omega
    · rfl
theorem insT_sum (x : Tg) : ∀ L : List Tg, sumS (insT x L) = x.s + sumS L
  | [] => rfl
  | a :: L => by
    unfold insT
    split
    · rw [sumS_cons, insT_sum x L, sumS_cons]; omega
    · rfl
theorem nJoin_ok {N : Nat} {L : List Tg} (h : LgOk N L) (f w : Int) : LgOk N (nJoin L f w).2 := by
  unfold nJoin
  split
  · exact h
  · rename_i hb
    split
    · exact h
    · rename_i hn
      refine ⟨h.ok.ins (by refine ⟨?_, ?_, ?_, ?_⟩ <;> (simp only; omega)) (by simpa using hn), ?_⟩
      rw [insT_abs]
      have := h.sm
      show ab 0 + _ ≤ _
      unfold ab; omega
theorem nJoin_sum (L : List Tg) (f w : Int) : sumS (nJoin L f w).2 = sumS L := by
  unfold nJoin
  split
  · rfl
  · split
    · rfl
    · rw [insT_sum]; show (0 : Int) + _ = _; omega
/-- One line exchanged. -/
theorem setT_abs {x t : Tg} : ∀ {L : List Tg}, (L.map (·.f)).Pairwise (· < ·) → t ∈ L → t.f = x.f → absS (setT x L) = absS L - ab t.s + ab x.s ∧ sumS (setT x L) = sumS L - t.s + x.s
  | [], _, h, _ => absurd h (by simp)
  | a :: L, hp, h, hf => by
    rw [List.map_cons, List.pairwise_cons] at hp
    by_cases ha : a.f = x.f
    · have hat : t = a := by
        rcases List.mem_cons.1 h with h | h
        · exact h
        · have := hp.1 t.f (List.mem_map.2 ⟨t, h, rfl⟩); omega
      subst hat
      have hL : setT x L = L := by
        unfold setT
        rw [List.map_congr_left (g := id) fun u hu => ?_, List.map_id]
        rw [if_neg]; rfl
        intro e
        have := hp.1 u.f (List.mem_map.2 ⟨u, hu, rfl⟩); omega
      have : setT x (t :: L) = x :: L := by
        show (if t.f = x.f then x else t) :: setT x L = _
        rw [if_pos ha, hL]
      rw [this, absS_cons, absS_cons, sumS_cons, sumS_cons]; omega
    · have hm : t ∈ L := by
        rcases List.mem_cons.1 h with h | h
        · subst h; exact absurd hf ha
        · exact h
      obtain ⟨h1, h2⟩ := setT_abs hp.2 hm hf
      have : setT x (a :: L) = a :: setT x L := by
        show (if a.f = x.f then x else a) :: setT x L = _
        rw [if_neg ha]
      rw [this, absS_cons, absS_cons, sumS_cons, sumS_cons]; omega
theorem NOk.asc' {L : List Tg} (h : NOk L) : (L.map (·.f)).Pairwise (· < ·) := asc_iff.1 h.asc
theorem nSetw_ok {N : Nat} {L : List Tg} (h : LgOk N L) (f w : Int) : LgOk N (nSetw L f w).2 := by
  unfold nSetw
  cases hf : fget L f with
  | none => exact h
  | some t =>
    obtain ⟨h1, h2⟩ := fget_some hf
    have hr := h.ok.rng t h1
    simp only
    split
    · exact h
    · rename_i hb
      refine ⟨h.ok.set (by refine ⟨?_, ?_, ?_, ?_⟩ <;> (simp only; omega)), ?_⟩
      rw [(setT_abs (x := ⟨f, w, t.s⟩) h.ok.asc' h1 h2).1]
      have := h.sm
      show _ - ab t.s + ab t.s ≤ _
      omega
theorem nSetw_sum {N : Nat} {L : List Tg} (h : LgOk N L) (f w : Int) : sumS (nSetw L f w).2 = sumS L := by
  unfold nSetw
  cases hf : fget L f with
  | none => rfl
  | some t =>
    obtain ⟨h1, h2⟩ := fget_some hf
    simp only
    split
    · rfl
    · rw [(setT_abs (x := ⟨f, w, t.s⟩) h.ok.asc' h1 h2).2]
      show _ - t.s + t.s = _
      omega
theorem nMove_ok {N : Nat} {L : List Tg} (h : LgOk N L) (c s n : Int) : LgOk (N + 1) (nMove L c s n).2 ∧ sumS (nMove L c s n).2 = sumS L := by
  have h' := h.le (Nat.le_succ N)
  unfold nMove
  cases hc : fget L c with
  | none => exact ⟨h', rfl⟩
  | some a =>
    cases hs : fget L s with
    | none => exact ⟨h', rfl⟩
    | some b =>
      obtain ⟨a1, a2⟩ := fget_some hc
      obtain ⟨b1, b2⟩ := fget_some hs
      have ra := h.ok.rng a a1
      have rb := h.ok.rng b b1
      simp only
      split
      · exact ⟨h', rfl⟩
      · rename_i hn
        split
        · exact ⟨h', rfl⟩
        · rename_i hne
          split
          · exact ⟨h', rfl⟩
          · have hx : NOk (setT ⟨c, a.w, a.s + n⟩ L) := h.ok.set (by refine ⟨?_, ?_, ?_, ?_⟩ <;> (simp only; omega))
            have hb2 : b ∈ setT ⟨c, a.w, a.s + n⟩ L := mem_setT_of b1 (by simp only; omega)
            obtain ⟨x1, x2⟩ := setT_abs (x := ⟨c, a.w, a.s + n⟩) h.ok.asc' a1 a2
            obtain ⟨y1, y2⟩ := setT_abs (x := ⟨s, b.w, b.s - n⟩) hx.asc' hb2 b2
            refine ⟨⟨hx.set (by refine ⟨?_, ?_, ?_, ?_⟩ <;> (simp only; omega)), ?_⟩, ?_⟩
            · rw [y1, x1]
              have := h.sm
              simp only
              unfold ab
              omega
            · rw [y2, x2]; simp only; omega
theorem delT_sums {t : Tg} : ∀ {L : List Tg}, (L.map (·.f)).Pairwise (· < ·) → t ∈ L → absS (delT t.f L) = absS L - ab t.s ∧ sumS (delT t.f L) = sumS L - t.s
  | [], _, h => absurd h (by simp)
  | a :: L, hp, h => by
    rw [List.map_cons, List.pairwise_cons] at hp
    by_cases ha : a.f = t.f
    · have hat : t = a := by
        rcases List.mem_cons.1 h with h | h
        · exact h
        · have := hp.1 t.f (List.mem_map.2 ⟨t, h, rfl⟩); omega
      subst hat
      have hL : delT t.f L = L := by
        unfold delT
        rw [List.filter_eq_self]
        intro u hu
        have := hp.1 u.f (List.mem_map.2 ⟨u, hu, rfl⟩)
        simp; omega
      have : delT t.f (t :: L) = L := by
        unfold delT at hL ⊢
        rw [List.filter_cons_of_neg (by simp), hL]
      rw [this, absS_cons, sumS_cons]; omega
    · have hm : t ∈ L := by
        rcases List.mem_cons.1 h with h | h
        · subst h; exact absurd rfl ha
        · exact h
      obtain ⟨h1, h2⟩ := delT_sums hp.2 hm
      have : delT t.f (a :: L) = a :: delT t.f L := by
        unfold delT
        rw [List.filter_cons_of_pos (by simpa using ha)]
      rw [this, absS_cons, absS_cons, sumS_cons, sumS_cons]; omega
theorem wts_pos {L : List Tg} (h : NOk L) : ∀ w ∈ wts L, 1 ≤ w := by
  intro w hw
  obtain ⟨t, ht, rfl⟩ := List.mem_map.1 hw
  exact (h.rng t ht).2.2.1
theorem nLeave_ok {N : Nat} {L : List Tg} (h : LgOk N L) (f : Int) : LgOk N (nLeave L f).2 := by
  unfold nLeave
  cases hf : fget L f with
  | none => exact h
  | some t =>
    obtain ⟨h1, rfl⟩ := fget_some hf
    simp only
    refine ⟨(h.ok.del _).ofFw (addS_fw _ _), ?_⟩
    have e1 := addS_abs (delT t.f L) (lagSplit t.s (wts (delT t.f L)))
    have e2 := lagSplit_abs t.s (wts_pos (h.ok.del t.f))
    have e3 := (delT_sums h.ok.asc' h1).1
    have := h.sm
    omega
theorem nLeave_sum {N : Nat} {L : List Tg} (h : LgOk N L) (f : Int) (h0 : sumS L = 0) : sumS (nLeave L f).2 = 0 := by
  unfold nLeave
  cases hf : fget L f with
  | none => exact h0
  | some t =>
    obtain ⟨h1, rfl⟩ := fget_some hf
    simp only
    have e3 := (delT_sums h.ok.asc' h1).2
    by_cases hn : delT t.f L = []
    · rw [hn]; rfl
    · rw [addS_sum _ _ (by rw [lagSplit_len]; unfold wts; rw [List.length_map]), lagSplit_sum _ (by unfold wts; simpa using hn)]
      omega
end Go.Proofs.Ytalkmeclkjnjnaa
