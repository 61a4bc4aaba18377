/- The order of comp as functions on lists of pairs: what Eligible, Select and Serve keep. No program in sight. -/
import Derived.Test.YtnandakoigmknaaCompS
namespace Go.Proofs.Ytnandakoigmknaa
open Go.RowKit
open SP

section
variable {reb tm : Int} {el tg : List (Int × Int)}

theorem tget_mput (tg : List (Int × Int)) (k v f : Int) : tget (mput tg k v) f = if f = k then v else tget tg f := by
  unfold tget; rw [mget_mput]; split <;> rfl
theorem tget_lower (by_ : Int) (hb : 0 ≤ by_) (tg : List (Int × Int)) (f : Int) : tget (lower by_ tg) f = max (tget tg f - by_) 0 := by
  induction tg with
  | nil => simp [tget, mget, lower]; omega
  | cons x tg ih =>
    obtain ⟨k, v⟩ := x
    unfold tget lower at *
    simp only [List.map_cons]
    unfold mget
    by_cases h : f = k
    · rw [if_pos h, if_pos h]; rfl
    · rw [if_neg h, if_neg h]; exact ih
theorem lower_keys (by_ : Int) (tg : List (Int × Int)) : (lower by_ tg).map (·.1) = tg.map (·.1) := by unfold lower; rw [List.map_map]; rfl
theorem Uniq.lower (h : Uniq tg) (by_ : Int) : Uniq (lower by_ tg) := by unfold Uniq; rw [lower_keys]; exact h
theorem tget_val (hu : Uniq tg) {x : Int × Int} (hx : x ∈ tg) : tget tg x.1 = x.2 := by unfold tget; rw [mget_mem hu hx]; rfl

theorem eligTg_uniq (el : List (Int × Int)) (tm : Int) : ∀ (l tg : List (Int × Int)), Uniq tg → Uniq (eligTg el tm l tg)
  | [], tg, h => h
  | p :: l, tg, h => by
    unfold eligTg
    refine eligTg_uniq el tm l _ ?_
    split
    · exact h
    · exact h.mput _ _
theorem eligTg_get (el : List (Int × Int)) (tm f : Int) : ∀ (l tg : List (Int × Int)), tget (eligTg el tm l tg) f = if f ∈ l.map (·.1) ∧ mget el f = none then max (tget tg f) tm else tget tg f
  | [], tg => by simp [eligTg]
  | p :: l, tg => by
    unfold eligTg
    rw [eligTg_get el tm f l]
    cases he : mget el p.1 with
    | none =>
      simp only [Option.isSome_none, Bool.false_eq_true, if_false]
      rw [tget_mput]
      by_cases hf : f = p.1
      · subst hf
        simp only [if_true, he, and_true, List.map_cons, List.mem_cons, true_or]
        split <;> omega
      · simp only [List.map_cons, List.mem_cons, hf, false_or, if_false]
    | some v =>
      simp only [Option.isSome_some, if_true]
      by_cases hf : f = p.1
      · subst hf; simp [he]
      · simp only [List.map_cons, List.mem_cons, hf, false_or]

theorem mput_end : ∀ (m : List (Int × Int)) (k v : Int), k ∉ m.map (·.1) → mput m k v = m ++ [(k, v)]
  | [], _, _, _ => rfl
  | (k', v') :: m, k, v, h => by
    simp only [List.map_cons, List.mem_cons, not_or] at h
    unfold mput
    rw [if_neg h.1, mput_end m k v h.2]; rfl
theorem eligEl_append : ∀ (l m : List (Int × Int)), ((m ++ l).map (·.1)).Nodup → eligEl l m = m ++ l
  | [], m, _ => by simp [eligEl]
  | p :: l, m, h => by
    unfold eligEl
    have hk : p.1 ∉ m.map (·.1) := by
      rw [List.map_append, List.nodup_append] at h
      intro hp
      exact h.2.2 _ hp _ (by simp) rfl
    rw [mput_end m p.1 p.2 hk, eligEl_append l _ (by simpa using h)]
    simp
theorem eligEl_self {l : List (Int × Int)} (h : Uniq l) : eligEl l [] = l := by rw [eligEl_append l [] (by simpa [Uniq] using h)]; rfl

theorem eligBad_ok : ∀ (l : List (Int × Int)) (last : Int), (l.map (·.1)).Pairwise (· < ·) → (∀ p ∈ l, last < p.1 ∧ p.1 < 32 ∧ 1 ≤ p.2 ∧ p.2 ≤ 16) → eligBad last l = false
  | [], _, _, _ => rfl
  | p :: l, last, h, hp => by
    have h0 := hp p (by simp)
    rw [List.map_cons, List.pairwise_cons] at h
    have ih := eligBad_ok l p.1 h.2 (fun q hq => ⟨h.1 _ (List.mem_map.2 ⟨q, hq, rfl⟩), (hp q (by simp [hq])).2⟩)
    unfold eligBad
    rw [ih]
    simp; omega

/-- The weights that the laws use. -/
def wf (f : Int) : Int := (mget fullSet f).getD 1
theorem set_facts {l : List (Int × Int)} (h : l.Sublist fullSet) : eligBad (-1) l = false ∧ Uniq l ∧ KeyOk l ∧ l.length ≤ 5 ∧ ∀ p ∈ l, 0 ≤ p.1 ∧ p.1 ≤ 4 ∧ p.2 = wf p.1 ∧ 1 ≤ p.2 ∧ p.2 ≤ 16 := by
  have hp : ∀ p ∈ l, 0 ≤ p.1 ∧ p.1 ≤ 4 ∧ p.2 = wf p.1 ∧ 1 ≤ p.2 ∧ p.2 ≤ 16 := fun p hp => by
    have : ∀ q ∈ fullSet, 0 ≤ q.1 ∧ q.1 ≤ 4 ∧ q.2 = wf q.1 ∧ 1 ≤ q.2 ∧ q.2 ≤ 16 := by decide
    exact this p (h.subset hp)
  have hw : (l.map (·.1)).Pairwise (· < ·) := by
    have : (fullSet.map (·.1)).Pairwise (· < ·) := by decide
    exact this.sublist (h.map _)
  have hu : Uniq l := by unfold Uniq; exact hw.imp (fun h => by omega)
  refine ⟨eligBad_ok l (-1) hw (fun p h => by have := hp p h; omega), hu, ⟨hu, fun x hx => by have := hp x hx; omega⟩, h.length_le, hp⟩

theorem wf_range (f : Int) : 1 ≤ wf f ∧ wf f ≤ 16 := by
  unfold wf
  cases h : mget fullSet f with
  | none => decide
  | some v =>
    have : ∀ q ∈ fullSet, 1 ≤ q.2 ∧ q.2 ≤ 16 := by decide
    exact this _ (mem_of_mget h)

theorem leastL_facts (tg : List (Int × Int)) : ∀ (ks : List Int) (best : Int), (∀ k ∈ ks, 0 ≤ k) → 0 ≤ best →
    (leastL tg ks best = best ∨ leastL tg ks best ∈ ks) ∧ tget tg (leastL tg ks best) ≤ tget tg best ∧ ∀ k ∈ ks, tget tg (leastL tg ks best) ≤ tget tg k
  | [], best, _, _ => ⟨.inl rfl, Int.le_refl _, by simp⟩
  | f :: ks, best, h, hb => by
    have hks : ∀ k ∈ ks, 0 ≤ k := fun k hk => h k (by simp [hk])
    unfold leastL
    by_cases hc : best < 0 ∨ tget tg f < tget tg best
    · rw [if_pos hc]
      obtain ⟨h1, h2, h3⟩ := leastL_facts tg ks f hks (h f (by simp))
      have hc' : tget tg f < tget tg best := by omega
      refine ⟨.inr (by rcases h1 with h1 | h1 <;> simp [h1]), by omega, ?_⟩
      intro k hk
      rcases List.mem_cons.1 hk with rfl | hk
      · exact h2
      · exact h3 k hk
    · rw [if_neg hc]
      obtain ⟨h1, h2, h3⟩ := leastL_facts tg ks best hks hb
      refine ⟨by rcases h1 with h1 | h1 <;> simp [h1], h2, ?_⟩
      intro k hk
      rcases List.mem_cons.1 hk with rfl | hk
      · omega
      · exact h3 k hk

theorem leastF_facts (el tg : List (Int × Int)) (h : ∀ p ∈ el, 0 ≤ p.1) : (el = [] ∧ leastF el tg = -1) ∨ (leastF el tg ∈ el.map (·.1) ∧ ∀ p ∈ el, tget tg (leastF el tg) ≤ tget tg p.1) := by
  have hk : ∀ k ∈ sortK el, 0 ≤ k := fun k hk => by
    obtain ⟨x, hx, rfl⟩ := List.mem_map.1 (sortK_mem.1 hk)
    exact h x hx
  have hm : ∀ k, k ∈ sortK el ↔ k ∈ el.map (·.1) := fun k => sortK_mem
  unfold leastF
  cases hs : sortK el with
  | nil =>
    left
    have : el.length = 0 := by rw [← sortK_length, hs]; rfl
    exact ⟨List.eq_nil_of_length_eq_zero this, rfl⟩
  | cons f ks =>
    right
    rw [hs] at hk hm
    unfold leastL
    rw [if_pos (.inl (by omega))]
    obtain ⟨h1, h2, h3⟩ := leastL_facts tg ks f (fun k hk' => hk k (by simp [hk'])) (hk f (by simp))
    refine ⟨(hm _).1 (by rcases h1 with h1 | h1 <;> simp [h1]), fun p hp => ?_⟩
    rcases List.mem_cons.1 ((hm p.1).2 (List.mem_map.2 ⟨p, hp, rfl⟩)) with h4 | h4
    · rw [h4]; exact h2
    · exact h3 _ h4

theorem mget_isSome_of {el : List (Int × Int)} {f : Int} (h : f ∈ el.map (·.1)) : ∃ v, mget el f = some v := by
  cases h' : mget el f with
  | none => exact absurd h (mget_none.1 h')
  | some v => exact ⟨v, rfl⟩

/-! ### CompSpread -/
structure SInv (sz : Int) (i : Nat) (el tg : List (Int × Int)) (tm : Int) : Prop where
  szr : 1 ≤ sz ∧ sz ≤ 4096
  sub : el.Sublist fullSet
  uniq : Uniq tg
  tm0 : 0 ≤ tm ∧ tm ≤ i * 2952069120
  get : ∀ f, 0 ≤ tget tg f ∧ tget tg f ≤ i * 2952069120 ∧ tget tg f ≤ tm + sz * unit1 (wf f)
  low : ∀ p ∈ el, tm ≤ tget tg p.1

theorem SInv.start {sz : Int} (hz : 1 ≤ sz ∧ sz ≤ 4096) : SInv sz 0 [] [] 0 := ⟨hz, List.nil_sublist _, by simp [Uniq], by omega, fun f => by
  have := unit1_range (wf_range f).1 (wf_range f).2
  show 0 ≤ (0 : Int) ∧ _
  refine ⟨Int.le_refl _, ?_, ?_⟩
  · show (0 : Int) ≤ _; simp
  · show (0 : Int) ≤ _; have := Int.mul_nonneg (show 0 ≤ sz by omega) (show 0 ≤ unit1 (wf f) by omega); omega, by simp⟩

theorem SInv.room {sz : Int} {i : Nat} (h : SInv sz i el tg tm) (f : Int) : 0 ≤ sz * unit1 (wf f) := by
  have := unit1_range (wf_range f).1 (wf_range f).2
  exact Int.mul_nonneg (by have := h.szr; omega) (by omega)

theorem SInv.vals {sz : Int} {i : Nat} (h : SInv sz i el tg tm) (hi : i ≤ 300) : ∀ x ∈ tg, 0 ≤ x.2 ∧ x.2 ≤ 1099511627776 := fun x hx => by
  have := h.get x.1
  rw [tget_val h.uniq hx] at this
  omega

theorem SInv.elig {sz : Int} {i : Nat} (h : SInv sz i el tg tm) {l : List (Int × Int)} (hl : l.Sublist fullSet) : SInv sz i (eligEl l []) (eligTg el tm l tg) tm := by
  obtain ⟨_, hu, _, _, hp⟩ := set_facts hl
  have hlow : ∀ f, mget el f ≠ none → tm ≤ tget tg f := fun f hf => by
    cases he : mget el f with
    | none => exact absurd he hf
    | some v => exact h.low _ (mem_of_mget he)
  have htm := h.tm0
  rw [eligEl_self hu]
  refine ⟨h.szr, hl, eligTg_uniq el tm l tg h.uniq, h.tm0, fun f => ?_, fun p hp => ?_⟩
  · have := h.get f
    have := h.room f
    rw [eligTg_get]
    split <;> omega
  · rw [eligTg_get]
    split
    · omega
    · rename_i hn
      refine hlow _ fun he => hn ⟨List.mem_map.2 ⟨p, hp, rfl⟩, he⟩

theorem SInv.serve {sz : Int} {i : Nat} (h : SInv sz i el tg tm) (hi : i ≤ 100) (hne : el ≠ []) {len : Int} (h1 : 1 ≤ len) (h2 : len ≤ sz) :
    0 ≤ leastF el tg ∧ servE el tg (leastF el tg) len = 0 ∧
    (servBy el tg tm (leastF el tg) len = servTm tg tm (leastF el tg)) ∧
    SInv sz (i + 1) el (servTg el tg (leastF el tg) len) (servTm tg tm (leastF el tg)) ∧
    SInv sz (i + 1) el (lower (servBy el tg tm (leastF el tg) len) (servTg el tg (leastF el tg) len)) (servTm tg tm (leastF el tg) - servBy el tg tm (leastF el tg) len) := by
  obtain ⟨_, hu, _, _, hp⟩ := set_facts h.sub
  have hp0 : ∀ p ∈ el, 0 ≤ p.1 := fun p hp' => (hp p hp').1
  rcases leastF_facts el tg hp0 with ⟨he, _⟩ | ⟨hmem, hmin⟩
  · exact absurd he hne
  have hf0 : 0 ≤ leastF el tg := by obtain ⟨p, hp', hpe⟩ := List.mem_map.1 hmem; rw [← hpe]; exact hp0 p hp'
  refine ⟨hf0, ?_⟩
  generalize leastF el tg = f at *
  obtain ⟨wt, hwt⟩ := mget_isSome_of hmem
  have hin := mem_of_mget hwt
  have hpw := hp _ hin
  dsimp only at hpw
  have hel : tget el f = wt := by unfold tget; rw [hwt]; rfl
  have hlow := h.low _ hin
  dsimp only at hlow
  have hg := h.get f
  have hsz := h.szr
  obtain ⟨c1, c2⟩ := cst_range (len := len) hpw.2.2.2.1 hpw.2.2.2.2 h1 (by have := h.szr; omega)
  have hfin : servFin el tg f len = (tget tg f + cst len wt, 0) := by
    unfold servFin finF
    rw [hel, if_neg (by unfold badLW; omega), if_neg (by omega)]
  have hcu : cst len wt ≤ sz * unit1 (wf f) := by
    rw [← hpw.2.2.1]
    exact Int.mul_le_mul_of_nonneg_right h2 (by have := unit1_range hpw.2.2.2.1 hpw.2.2.2.2; omega)
  have hE : servE el tg f len = 0 := by unfold servE; rw [hwt, hfin]; rfl
  have hTm : servTm tg tm f = tget tg f := by unfold servTm; omega
  have hTg : ∀ g, tget (servTg el tg f len) g = if g = f then tget tg f + cst len wt else tget tg g := fun g => by unfold servTg; rw [tget_mput, hfin]
  have hlow' : ∀ p ∈ el, tget tg f ≤ tget (servTg el tg f len) p.1 := fun p hp' => by
    rw [hTg]
    split
    · omega
    · exact hmin p hp'
  have hBy : servBy el tg tm f len = tget tg f := by
    unfold servBy
    rw [hTm]
    rcases leastF_facts el (servTg el tg f len) hp0 with ⟨he, _⟩ | ⟨hm2, _⟩
    · exact absurd he hne
    · obtain ⟨q, hq, hqe⟩ := List.mem_map.1 hm2
      have := hlow' q hq
      rw [hqe] at this
      omega
  have hu1 : Uniq (servTg el tg f len) := h.uniq.mput _ _
  refine ⟨hE, by rw [hBy, hTm], ⟨h.szr, h.sub, hu1, by rw [hTm]; push_cast; omega, fun g => ?_, by rw [hTm]; exact hlow'⟩, ⟨h.szr, h.sub, hu1.lower _, by rw [hTm, hBy]; push_cast; omega, fun g => ?_, fun p hp' => ?_⟩⟩
  · have hgg := h.get g
    rw [hTm, hTg]
    split
    · rename_i hgf; subst hgf; push_cast; omega
    · push_cast; omega
  · have hgg := h.get g
    have hug := h.room g
    rw [hBy, tget_lower _ hg.1, hTm, hTg]
    split
    · rename_i hgf; subst hgf; push_cast; omega
    · push_cast; omega
  · rw [hBy, hTm, tget_lower _ hg.1]
    omega
end
end Go.Proofs.Ytnandakoigmknaa
