/- Texts that the law rests on, put together by a program. -/
import Derived.Test.YtkmlkpfabkhleaaCifqDelayC
import Derived.Test.YtkmlkpfabkhleaaCifqDelayB
import Derived.Deep.RegionLaw
/- The order of comp as functions on lists of pairs: what Eligible, Select and Serve keep. No program in sight. -/
namespace Go.Proofs.Ytkmlkpfabkhleaa
open Go.RowKit
open SP

section
variable {reb tm : Int} {el tg : List (Int × Int)}

theorem tget_mput (tg : List (Int × Int)) (k v f : Int) : tget (mput tg k v) f = if f = k then v else tget tg f := by
  unfold tget; rw [mget_mput]; split <;> rfl
theorem tget_lower (by_ : Int) (hb : 0 ≤ by_) (tg : List (Int × Int)) (f : Int) : tget (lower by_ tg) f = max (tget tg f - by_) 0 := by
  induction tg with
  | nil => simp [tget, mget, lower]; omega
  | cons x tg ih =>
    obtain ⟨k, v⟩ := x
    unfold tget lower at *
    simp only [List.map_cons]
    unfold mget
    by_cases h : f = k
    · rw [if_pos h, if_pos h]; rfl
    · rw [if_neg h, if_neg h]; exact ih
theorem lower_keys (by_ : Int) (tg : List (Int × Int)) : (lower by_ tg).map (·.1) = tg.map (·.1) := by unfold lower; rw [List.map_map]; rfl
theorem Uniq.lower (h : Uniq tg) (by_ : Int) : Uniq (lower by_ tg) := by unfold Uniq; rw [lower_keys]; exact h
theorem tget_val (hu : Uniq tg) {x : Int × Int} (hx : x ∈ tg) : tget tg x.1 = x.2 := by unfold tget; rw [mget_mem hu hx]; rfl

theorem eligTg_uniq (el : List (Int × Int)) (tm : Int) : ∀ (l tg : List (Int × Int)), Uniq tg → Uniq (eligTg el tm l tg)
  | [], tg, h => h
  | p :: l, tg, h => by
    unfold eligTg
    refine eligTg_uniq el tm l _ ?_
    split
    · exact h
    · exact h.mput _ _
theorem eligTg_get (el : List (Int × Int)) (tm f : Int) : ∀ (l tg : List (Int × Int)), tget (eligTg el tm l tg) f = if f ∈ l.map (·.1) ∧ mget el f = none then max (tget tg f) tm else tget tg f
  | [], tg => by simp [eligTg]
  | p :: l, tg => by
    unfold eligTg
    rw [eligTg_get el tm f l]
    cases he : mget el p.1 with
    | none =>
      simp only [Option.isSome_none, Bool.false_eq_true, if_false]
      rw [tget_mput]
      by_cases hf : f = p.1
      · subst hf
        simp only [if_true, he, and_true, List.map_cons, List.mem_cons, true_or]
        split <;> omega
      · simp only [List.map_cons, List.mem_cons, hf, false_or, if_false]
    | some v =>
      simp only [Option.isSome_some, if_true]
      by_cases hf : f = p.1
      · subst hf; simp [he]
      · simp only [List.map_cons, List.mem_cons, hf, false_or]

theorem mput_end : ∀ (m : List (Int × Int)) (k v : Int), k ∉ m.map (·.1) → mput m k v = m ++ [(k, v)]
  | [], _, _, _ => rfl
  | (k', v') :: m, k, v, h => by
    simp only [List.map_cons, List.mem_cons, not_or] at h
    unfold mput
    rw [if_neg h.1, mput_end m k v h.2]; rfl
theorem eligEl_append : ∀ (l m : List (Int × Int)), ((m ++ l).map (·.1)).Nodup → eligEl l m = m ++ l
  | [], m, _ => by simp [eligEl]
  | p :: l, m, h => by
    unfold eligEl
    have hk : p.1 ∉ m.map (·.1) := by
      rw [List.map_append, List.nodup_append] at h
      intro hp
      exact h.2.2 _ hp _ (by simp) rfl
    rw [mput_end m p.1 p.2 hk, eligEl_append l _ (by simpa using h)]
    simp
theorem eligEl_self {l : List (Int × Int)} (h : Uniq l) : eligEl l [] = l := by rw [eligEl_append l [] (by simpa [Uniq] using h)]; rfl

theorem eligBad_ok : ∀ (l : List (Int × Int)) (last : Int), (l.map (·.1)).Pairwise (· < ·) → (∀ p ∈ l, last < p.1 ∧ p.1 < 32 ∧ 1 ≤ p.2 ∧ p.2 ≤ 16) → eligBad last l = false
  | [], _, _, _ => rfl
  | p :: l, last, h, hp => by
    have h0 := hp p (by simp)
    rw [List.map_cons, List.pairwise_cons] at h
    have ih := eligBad_ok l p.1 h.2 (fun q hq => ⟨h.1 _ (List.mem_map.2 ⟨q, hq, rfl⟩), (hp q (by simp [hq])).2⟩)
    unfold eligBad
    rw [ih]
    simp; omega

/-- The weights that the laws use. -/
def wf (f : Int) : Int := (mget fullSet f).getD 1
theorem set_facts {l : List (Int × Int)} (h : l.Sublist fullSet) : eligBad (-1) l = false ∧ Uniq l ∧ KeyOk l ∧ l.length ≤ 5 ∧ ∀ p ∈ l, 0 ≤ p.1 ∧ p.1 ≤ 4 ∧ p.2 = wf p.1 ∧ 1 ≤ p.2 ∧ p.2 ≤ 16 := by
  have hp : ∀ p ∈ l, 0 ≤ p.1 ∧ p.1 ≤ 4 ∧ p.2 = wf p.1 ∧ 1 ≤ p.2 ∧ p.2 ≤ 16 := fun p hp => by
    have : ∀ q ∈ fullSet, 0 ≤ q.1 ∧ q.1 ≤ 4 ∧ q.2 = wf q.1 ∧ 1 ≤ q.2 ∧ q.2 ≤ 16 := by decide
    exact this p (h.subset hp)
  have hw : (l.map (·.1)).Pairwise (· < ·) := by
    have : (fullSet.map (·.1)).Pairwise (· < ·) := by decide
    exact this.sublist (h.map _)
  have hu : Uniq l := by unfold Uniq; exact hw.imp (fun h => by omega)
  refine ⟨eligBad_ok l (-1) hw (fun p h => by have := hp p h; omega), hu, ⟨hu, fun x hx => by have := hp x hx; omega⟩, h.length_le, hp⟩

theorem wf_range (f : Int) : 1 ≤ wf f ∧ wf f ≤ 16 := by
  unfold wf
  cases h : mget fullSet f with
  | none => decide
  | some v =>
    have : ∀ q ∈ fullSet, 1 ≤ q.2 ∧ q.2 ≤ 16 := by decide
    exact this _ (mem_of_mget h)

theorem leastL_facts (tg : List (Int × Int)) : ∀ (ks : List Int) (best : Int), (∀ k ∈ ks, 0 ≤ k) → 0 ≤ best →
    (leastL tg ks best = best ∨ leastL tg ks best ∈ ks) ∧ tget tg (leastL tg ks best) ≤ tget tg best ∧ ∀ k ∈ ks, tget tg (leastL tg ks best) ≤ tget tg k
  | [], best, _, _ => ⟨.inl rfl, Int.le_refl _, by simp⟩
  | f :: ks, best, h, hb => by
    have hks : ∀ k ∈ ks, 0 ≤ k := fun k hk => h k (by simp [hk])
    unfold leastL
    by_cases hc : best < 0 ∨ tget tg f < tget tg best
    · rw [if_pos hc]
      obtain ⟨h1, h2, h3⟩ := leastL_facts tg ks f hks (h f (by simp))
      have hc' : tget tg f < tget tg best := by omega
      refine ⟨.inr (by rcases h1 with h1 | h1 <;> simp [h1]), by omega, ?_⟩
      intro k hk
      rcases List.mem_cons.1 hk with rfl | hk
      · exact h2
      · exact h3 k hk
    · rw [if_neg hc]
      obtain ⟨h1, h2, h3⟩ := leastL_facts tg ks best hks hb
      refine ⟨by rcases h1 with h1 | h1 <;> simp [h1], h2, ?_⟩
      intro k hk
      rcases List.mem_cons.1 hk with rfl | hk
      · omega
      · exact h3 k hk

theorem leastF_facts (el tg : List (Int × Int)) (h : ∀ p ∈ el, 0 ≤ p.1) : (el = [] ∧ leastF el tg = -1) ∨ (leastF el tg ∈ el.map (·.1) ∧ ∀ p ∈ el, tget tg (leastF el tg) ≤ tget tg p.1) := by
  have hk : ∀ k ∈ sortK el, 0 ≤ k := fun k hk => by
    obtain ⟨x, hx, rfl⟩ := List.mem_map.1 (sortK_mem.1 hk)
    exact h x hx
  have hm : ∀ k, k ∈ sortK el ↔ k ∈ el.map (·.1) := fun k => sortK_mem
  unfold leastF
  cases hs : sortK el with
  | nil =>
    left
    have : el.length = 0 := by rw [← sortK_length, hs]; rfl
    exact ⟨List.eq_nil_of_length_eq_zero this, rfl⟩
  | cons f ks =>
    right
    rw [hs] at hk hm
    unfold leastL
    rw [if_pos (.inl (by omega))]
    obtain ⟨h1, h2, h3⟩ := leastL_facts tg ks f (fun k hk' => hk k (by simp [hk'])) (hk f (by simp))
    refine ⟨(hm _).1 (by rcases h1 with h1 | h1 <;> simp [h1]), fun p hp => ?_⟩
    rcases List.mem_cons.1 ((hm p.1).2 (List.mem_map.2 ⟨p, hp, rfl⟩)) with h4 | h4
    · rw [h4]; exact h2
    · exact h3 _ h4

theorem mget_isSome_of {el : List (Int × Int)} {f : Int} (h : f ∈ el.map (·.1)) : ∃ v, mget el f = some v := by
  cases h' : mget el f with
  | none => exact absurd h (mget_none.1 h')
  | some v => exact ⟨v, rfl⟩

/-! ### CompSpread -/
structure SInv (sz : Int) (i : Nat) (el tg : List (Int × Int)) (tm : Int) : Prop where
  szr : 1 ≤ sz ∧ sz ≤ 4096
  sub : el.Sublist fullSet
  uniq : Uniq tg
  tm0 : 0 ≤ tm ∧ tm ≤ i * 2952069120
  get : ∀ f, 0 ≤ tget tg f ∧ tget tg f ≤ i * 2952069120 ∧ tget tg f ≤ tm + sz * unit1 (wf f)
  low : ∀ p ∈ el, tm ≤ tget tg p.1

theorem SInv.start {sz : Int} (hz : 1 ≤ sz ∧ sz ≤ 4096) : SInv sz 0 [] [] 0 := ⟨hz, List.nil_sublist _, by simp [Uniq], by omega, fun f => by
  have := unit1_range (wf_range f).1 (wf_range f).2
  show 0 ≤ (0 : Int) ∧ _
  refine ⟨Int.le_refl _, ?_, ?_⟩
  · show (0 : Int) ≤ _; simp
  · show (0 : Int) ≤ _; have := Int.mul_nonneg (show 0 ≤ sz by omega) (show 0 ≤ unit1 (wf f) by omega); omega, by simp⟩

theorem SInv.room {sz : Int} {i : Nat} (h : SInv sz i el tg tm) (f : Int) : 0 ≤ sz * unit1 (wf f) := by
  have := unit1_range (wf_range f).1 (wf_range f).2
  exact Int.mul_nonneg (by have := h.szr; omega) (by omega)

theorem SInv.vals {sz : Int} {i : Nat} (h : SInv sz i el tg tm) (hi : i ≤ 300) : ∀ x ∈ tg, 0 ≤ x.2 ∧ x.2 ≤ 1099511627776 := fun x hx => by
  have := h.get x.1
  rw [tget_val h.uniq hx] at this
  omega

theorem SInv.elig {sz : Int} {i : Nat} (h : SInv sz i el tg tm) {l : List (Int × Int)} (hl : l.Sublist fullSet) : SInv sz i (eligEl l []) (eligTg el tm l tg) tm := by
  obtain ⟨_, hu, _, _, hp⟩ := set_facts hl
  have hlow : ∀ f, mget el f ≠ none → tm ≤ tget tg f := fun f hf => by
    cases he : mget el f with
    | none => exact absurd he hf
    | some v => exact h.low _ (mem_of_mget he)
  have htm := h.tm0
  rw [eligEl_self hu]
  refine ⟨h.szr, hl, eligTg_uniq el tm l tg h.uniq, h.tm0, fun f => ?_, fun p hp => ?_⟩
  · have := h.get f
    have := h.room f
    rw [eligTg_get]
    split <;> omega
  · rw [eligTg_get]
    split
    · omega
    · rename_i hn
      refine hlow _ fun he => hn ⟨List.mem_map.2 ⟨p, hp, rfl⟩, he⟩

theorem SInv.serve {sz : Int} {i : Nat} (h : SInv sz i el tg tm) (hi : i ≤ 100) (hne : el ≠ []) {len : Int} (h1 : 1 ≤ len) (h2 : len ≤ sz) :
    0 ≤ leastF el tg ∧ servE el tg (leastF el tg) len = 0 ∧
    (servBy el tg tm (leastF el tg) len = servTm tg tm (leastF el tg)) ∧
    SInv sz (i + 1) el (servTg el tg (leastF el tg) len) (servTm tg tm (leastF el tg)) ∧
    SInv sz (i + 1) el (lower (servBy el tg tm (leastF el tg) len) (servTg el tg (leastF el tg) len)) (servTm tg tm (leastF el tg) - servBy el tg tm (leastF el tg) len) := by
  obtain ⟨_, hu, _, _, hp⟩ := set_facts h.sub
  have hp0 : ∀ p ∈ el, 0 ≤ p.1 := fun p hp' => (hp p hp').1
  rcases leastF_facts el tg hp0 with ⟨he, _⟩ | ⟨hmem, hmin⟩
  · exact absurd he hne
  have hf0 : 0 ≤ leastF el tg := by obtain ⟨p, hp', hpe⟩ := List.mem_map.1 hmem; rw [← hpe]; exact hp0 p hp'
  refine ⟨hf0, ?_⟩
  generalize leastF el tg = f at *
  obtain ⟨wt, hwt⟩ := mget_isSome_of hmem
  have hin := mem_of_mget hwt
  have hpw := hp _ hin
  dsimp only at hpw
  have hel : tget el f = wt := by unfold tget; rw [hwt]; rfl
  have hlow := h.low _ hin
  dsimp only at hlow
  have hg := h.get f
  have hsz := h.szr
  obtain ⟨c1, c2⟩ := cst_range (len := len) hpw.2.2.2.1 hpw.2.2.2.2 h1 (by have := h.szr; omega)
  have hfin : servFin el tg f len = (tget tg f + cst len wt, 0) := by
    unfold servFin finF
    rw [hel, if_neg (by unfold badLW; omega), if_neg (by omega)]
  have hcu : cst len wt ≤ sz * unit1 (wf f) := by
    rw [← hpw.2.2.1]
    exact Int.mul_le_mul_of_nonneg_right h2 (by have := unit1_range hpw.2.2.2.1 hpw.2.2.2.2; omega)
  have hE : servE el tg f len = 0 := by unfold servE; rw [hwt, hfin]; rfl
  have hTm : servTm tg tm f = tget tg f := by unfold servTm; omega
  have hTg : ∀ g, tget (servTg el tg f len) g = if g = f then tget tg f + cst len wt else tget tg g := fun g => by unfold servTg; rw [tget_mput, hfin]
  have hlow' : ∀ p ∈ el, tget tg f ≤ tget (servTg el tg f len) p.1 := fun p hp' => by
    rw [hTg]
    split
    · omega
    · exact hmin p hp'
  have hBy : servBy el tg tm f len = tget tg f := by
    unfold servBy
    rw [hTm]
    rcases leastF_facts el (servTg el tg f len) hp0 with ⟨he, _⟩ | ⟨hm2, _⟩
    · exact absurd he hne
    · obtain ⟨q, hq, hqe⟩ := List.mem_map.1 hm2
      have := hlow' q hq
      rw [hqe] at this
      omega
  have hu1 : Uniq (servTg el tg f len) := h.uniq.mput _ _
  refine ⟨hE, by rw [hBy, hTm], ⟨h.szr, h.sub, hu1, by rw [hTm]; push_cast; omega, fun g => ?_, by rw [hTm]; exact hlow'⟩, ⟨h.szr, h.sub, hu1.lower _, by rw [hTm, hBy]; push_cast; omega, fun g => ?_, fun p hp' => ?_⟩⟩
  · have hgg := h.get g
    rw [hTm, hTg]
    split
    · rename_i hgf; subst hgf; push_cast; omega
    · push_cast; omega
  · have hgg := h.get g
    have hug := h.room g
    rw [hBy, tget_lower _ hg.1, hTm, hTg]
    split
    · rename_i hgf; subst hgf; push_cast; omega
    · push_cast; omega
  · rw [hBy, hTm, tget_lower _ hg.1]
    omega
end
end Go.Proofs.Ytkmlkpfabkhleaa

/- Regions whose order Go leaves open: one invariant that every operation keeps serves for all orders. -/
namespace Go.Proofs.Ytkmlkpfabkhleaa
open Go.RowKit
section
variable {P : Program} {ops : Array Oper} {Q : Exit → Act → World → Prop}

theorem count_set_lt : ∀ (l : List Bool) (i : Nat), l[i]? = some false → (l.set i true).count false < l.count false
  | [], i, h => by simp at h
  | b :: l, 0, h => by
    simp at h; subst h
    simp
  | b :: l, i + 1, h => by
    have := count_set_lt l i (by simpa using h)
    simp only [List.set_cons_succ, List.count_cons]
    omega

theorem count_zero_all : ∀ (l : List Bool), l.count false = 0 → ∀ b ∈ l, b = true
  | [], _, b, h => by simp at h
  | c :: l, h, b, hb => by
    rw [List.count_cons] at h
    have h1 : l.count false = 0 := by omega
    rcases List.mem_cons.1 hb with rfl | hb
    · cases b
      · simp at h
      · rfl
    · exact count_zero_all l h1 b hb

/-- Edges point back. -/
def edgesBack (ops : Array Oper) : Bool := ops.toList.zipIdx.all fun (o, i) => o.after.all fun e => !Region.binds .any e || decide (e.on < i)
theorem edgesBack_spec (h : edgesBack ops = true) {i : Nat} {o : Oper} (ho : ops[i]? = some o) {e : Edge} (he : e ∈ o.after) (hb : Region.binds .any e = true) : e.on < i := by
  unfold edgesBack at h
  rw [List.all_eq_true] at h
  have hm : (o, i) ∈ ops.toList.zipIdx := by
    rw [List.mk_mem_zipIdx_iff_getElem?]
    simpa using ho
  have := h _ hm
  simp only [Array.all_eq_true'] at this
  have := this e he
  rw [hb] at this
  simpa using this

theorem ready_nil_all (hk : edgesBack ops = true) {L : Array Bool} (hs : L.size = ops.size) (h : Region.ready .any ops L = []) : ∀ i, i < ops.size → L.getD i true = true := by
  intro i
  induction i using Nat.strongRecOn with
  | _ i ih =>
    intro hi
    cases hc : L.getD i true with
    | true => rfl
    | false =>
      exfalso
      have hm : i ∈ Region.ready .any ops L := by
        rw [mem_ready]
        refine ⟨hc, ops[i], Array.getElem?_eq_getElem hi, fun e he hb => ?_⟩
        have hlt := edgesBack_spec hk (Array.getElem?_eq_getElem hi) he hb
        have := ih e.on hlt (by omega)
        have h1 : e.on < L.size := by omega
        simp only [Array.getD, h1, dif_pos] at this ⊢
        exact this
      rw [h] at hm
      cases hm

theorem wpAny_inv {I : Array Bool → Act → World → Prop} (hk : edgesBack ops = true)
    (step : ∀ (L : Array Bool) (i : Nat) (o : Oper) (a : Act) (w : World), L.size = ops.size → ops[i]? = some o → L.getD i true = false → (∀ e ∈ o.after, Region.binds .any e = true → L.getD e.on false = true) → I L a w → wpOp P ops Q i (I (L.setIfInBounds i true)) a w)
    (fin : ∀ (L : Array Bool) (a : Act) (w : World), L.size = ops.size → (∀ i, i < ops.size → L.getD i true = true) → I L a w → Q .normal a w) :
    ∀ (fuel : Nat) (L : Array Bool) (a : Act) (w : World), L.size = ops.size → L.toList.count false ≤ fuel → I L a w → wpAny P .any ops Q fuel L a w
  | 0, L, a, w, hs, hc, hI => by
    have hall : ∀ i, i < ops.size → L.getD i true = true := by
      intro i hi
      have h1 : i < L.size := by omega
      have h2 := count_zero_all L.toList (by omega) L[i] (by simp)
      simp only [Array.getD, h1, dif_pos]
      exact h2
    refine ⟨?_, fin L a w hs hall hI⟩
    cases hr : Region.ready .any ops L with
    | nil => rfl
    | cons j l =>
      exfalso
      have hm : j ∈ Region.ready .any ops L := by rw [hr]; exact List.mem_cons_self
      obtain ⟨h1, o, ho, _⟩ := mem_ready.1 hm
      rw [hall j (Array.getElem?_eq_some_iff.1 ho).1] at h1
      cases h1
  | fuel + 1, L, a, w, hs, hc, hI => by
    refine ⟨fun h => fin L a w hs (ready_nil_all hk hs h) hI, fun i hi => ?_⟩
    obtain ⟨h1, o, ho, h2⟩ := mem_ready.1 hi
    refine wpOp_mono (fun a' w' hI' => ?_) (step L i o a w hs ho h1 h2 hI)
    refine wpAny_inv hk step fin fuel _ a' w' (by simpa using hs) ?_ hI'
    have hlt := (Array.getElem?_eq_some_iff.1 ho).1
    have h3 : L.toList[i]? = some false := by
      have h4 : i < L.size := by omega
      simp only [Array.getD, h4, dif_pos] at h1
      rw [Array.getElem?_toList, Array.getElem?_eq_getElem h4]
      exact congrArg some h1
    have := count_set_lt _ _ h3
    rw [Array.toList_setIfInBounds]
    omega

/-- What an activation holds when the operations that L marks have been carried out, with the values v. -/
structure Agree (A0 : Act) (ops : Array Oper) (L : Nat → Bool) (v : Nat → Value) (a : Act) : Prop where
  defers : a.defers = A0.defers
  size : a.tmps.size = A0.tmps.size
  off : ∀ t : Nat, (∀ k o, ops[k]? = some o → o.dst = some t → L k = false) → a.tmps.getD t undef = A0.tmps.getD t undef
  on : ∀ (k : Nat) (o : Oper) (t : Nat), ops[k]? = some o → o.dst = some t → L k = true → a.tmps.getD t undef = v k

def dIns (L : Nat → Bool) (i : Nat) : Nat → Bool := fun j => if j = i then true else L j
def dUpd (v : Nat → Value) (i : Nat) (x : Value) : Nat → Value := fun j => if j = i then x else v j

/-- Each operation has a slot of its own. -/
def slotsOk (ops : Array Oper) (n : Nat) : Bool :=
  (List.range ops.size).all fun i => match (ops[i]?).bind (·.dst) with
    | none => true
    | some t => decide (t < n) && (List.range ops.size).all fun j => decide (i = j) || (ops[j]?).bind (·.dst) != some t
theorem slotsOk_lt {n : Nat} (h : slotsOk ops n = true) {i : Nat} {o : Oper} {t : Nat} (ho : ops[i]? = some o) (ht : o.dst = some t) : t < n := by
  unfold slotsOk at h
  rw [List.all_eq_true] at h
  have := h i (List.mem_range.2 (Array.getElem?_eq_some_iff.1 ho).1)
  rw [ho] at this
  simp only [Option.bind_some, ht, Bool.and_eq_true, decide_eq_true_eq] at this
  exact this.1
theorem slotsOk_ne {n : Nat} (h : slotsOk ops n = true) {i j : Nat} {o o' : Oper} {t : Nat} (ho : ops[i]? = some o) (ht : o.dst = some t) (ho' : ops[j]? = some o') (ht' : o'.dst = some t) : i = j := by
  unfold slotsOk at h
  rw [List.all_eq_true] at h
  have := h i (List.mem_range.2 (Array.getElem?_eq_some_iff.1 ho).1)
  rw [ho] at this
  simp only [Option.bind_some, ht, Bool.and_eq_true, decide_eq_true_eq, List.all_eq_true] at this
  have := this.2 j (List.mem_range.2 (Array.getElem?_eq_some_iff.1 ho').1)
  rw [ho'] at this
  simpa [ht'] using this

theorem Agree.put {A0 a : Act} {L : Nat → Bool} {v : Nat → Value} {i : Nat} {o : Oper} (hs : slotsOk ops A0.tmps.size = true) (h : Agree A0 ops L v a) (ho : ops[i]? = some o) (x : Value) :
    Agree A0 ops (dIns L i) (dUpd v i x) (a.put o.dst x) := by
  cases hd : o.dst with
  | none =>
    refine ⟨h.defers, h.size, fun t ht => h.off t fun k o' hk hk' => ?_, fun k o' t hk hk' hl => ?_⟩
    · have := ht k o' hk hk'
      unfold dIns at this
      split at this
      · cases this
      · exact this
    · unfold dIns at hl
      split at hl
      · rename_i e; subst e; rw [ho] at hk; cases hk; rw [hd] at hk'; cases hk'
      · rename_i e
        simp only [dUpd, if_neg e]
        exact h.on k o' t hk hk' hl
  | some d =>
    have hdl : d < a.tmps.size := by rw [h.size]; exact slotsOk_lt hs ho hd
    have same : ∀ t, t ≠ d → (a.put (some d) x).tmps.getD t undef = a.tmps.getD t undef := by
      intro t ht
      simp only [Act.put, Array.getD_eq_getD_getElem?, Array.getElem?_setIfInBounds]
      rw [if_neg (Ne.symm ht)]
    refine ⟨h.defers, by simp [Act.put, h.size], fun t ht => ?_, fun k o' t hk hk' hl => ?_⟩
    · have hne : t ≠ d := by
        rintro rfl
        have := ht i o ho hd
        simp [dIns] at this
      rw [same t hne]
      refine h.off t fun k o' hk hk' => ?_
      have := ht k o' hk hk'
      unfold dIns at this
      split at this
      · cases this
      · exact this
    · by_cases hki : k = i
      · subst hki
        rw [ho] at hk; cases hk
        rw [hd] at hk'; cases hk'
        simp [Act.put, dUpd, Array.getD_eq_getD_getElem?, hdl]
      · have hne : t ≠ d := by
          rintro rfl
          exact hki (slotsOk_ne hs hk hk' ho hd)
        rw [same t hne]
        simp only [dIns, if_neg hki] at hl
        simp only [dUpd, if_neg hki]
        exact h.on k o' t hk hk' hl

theorem Agree.start (A0 : Act) (ops : Array Oper) (v : Nat → Value) : Agree A0 ops (fun _ => false) v A0 :=
  ⟨rfl, rfl, fun _ _ => rfl, fun _ _ _ _ _ h => by cases h⟩

theorem Agree.uniq {A0 a b : Act} {L : Nat → Bool} {v : Nat → Value} (h : Agree A0 ops L v a) (k : Agree A0 ops L v b) : a = b := by
  have e1 : a.defers = b.defers := h.defers.trans k.defers.symm
  have es : a.tmps.size = b.tmps.size := h.size.trans k.size.symm
  have e2 : a.tmps = b.tmps := by
    apply Array.ext es
    intro t h1 h2
    have hh : a.tmps.getD t undef = b.tmps.getD t undef := by
      by_cases hx : ∃ k o, ops[k]? = some o ∧ o.dst = some t ∧ L k = true
      · obtain ⟨k', o, ho, hd, hl⟩ := hx
        rw [h.on k' o t ho hd hl, k.on k' o t ho hd hl]
      · have hno : ∀ k o, ops[k]? = some o → o.dst = some t → L k = false := by
          intro k' o ho hd
          cases hl : L k' with
          | false => rfl
          | true => exact absurd ⟨k', o, ho, hd, hl⟩ hx
        rw [h.off t hno, k.off t hno]
    simpa [Array.getD, h1, h2] using hh
  cases a; cases b
  simp only at e1 e2
  rw [e1, e2]

/-- All operations' values, put in the order of the text. -/
def putAll : List Oper → Nat → (Nat → Value) → Act → Act
  | [], _, _, a => a
  | o :: l, k, v, a => putAll l (k + 1) v (a.put o.dst (v k))

theorem Agree.congr {A0 a : Act} {L L' : Nat → Bool} {v v' : Nat → Value} (h : Agree A0 ops L v a) (hL : ∀ k, k < ops.size → L k = L' k) (hv : ∀ k, k < ops.size → L k = true → v k = v' k) : Agree A0 ops L' v' a :=
  ⟨h.defers, h.size, fun t ht => h.off t fun k o ho hd => by rw [hL k (Array.getElem?_eq_some_iff.1 ho).1]; exact ht k o ho hd,
   fun k o t ho hd hl => by
    have hk := (Array.getElem?_eq_some_iff.1 ho).1
    rw [← hL k hk] at hl
    rw [h.on k o t ho hd hl, hv k hk hl]⟩

theorem Agree.all {A0 : Act} (hs : slotsOk ops A0.tmps.size = true) (v : Nat → Value) : ∀ (l : List Oper) (k : Nat) (a : Act), ops.toList.drop k = l → Agree A0 ops (fun j => decide (j < k)) v a → Agree A0 ops (fun _ => true) v (putAll l k v a)
  | [], k, a, hl, h => by
    have hk : ops.size ≤ k := by
      have := congrArg List.length hl
      simp at this
      omega
    refine h.congr (fun j hj => by simp; omega) (fun _ _ _ => rfl)
  | o :: l, k, a, hl, h => by
    have ho : ops[k]? = some o := by
      have : (ops.toList.drop k)[0]? = some o := by rw [hl]; rfl
      rw [List.getElem?_drop] at this
      simpa using this
    have hl' : ops.toList.drop (k + 1) = l := by
      rw [← List.drop_drop, hl]; rfl
    refine Agree.all hs v l (k + 1) _ hl' ?_
    refine (h.put hs ho (v k)).congr (fun j hj => ?_) (fun j hj _ => ?_)
    · unfold dIns; split
      · rename_i e; subst e; simp
      · rename_i e
        have : (j < k) ↔ (j < k + 1) := by omega
        simp [this]
    · unfold dUpd; split
      · rename_i e; rw [e]
      · rfl

/-- Said of every operation. -/
def AllOps : List Oper → Nat → (Nat → Oper → Prop) → Prop
  | [], _, _ => True
  | o :: l, k, p => p k o ∧ AllOps l (k + 1) p
theorem AllOps.get {p : Nat → Oper → Prop} : ∀ {l : List Oper} {k : Nat}, AllOps l k p → ∀ (i : Nat) (o : Oper), l[i]? = some o → p (k + i) o
  | [], _, _, i, o, h => by simp at h
  | x :: l, k, h, 0, o, ho => by simp at ho; subst ho; exact h.1
  | x :: l, k, h, i + 1, o, ho => by
    have := AllOps.get h.2 i o (by simpa using ho)
    rwa [show k + 1 + i = k + (i + 1) by omega] at this

/-- The step of one operation. -/
def DrawStep (P : Program) (ops : Array Oper) (Q : Exit → Act → World → Prop) (A0 : Act) (Inv : (Nat → Bool) → (Nat → Value) → World → Prop) (i : Nat) (o : Oper) : Prop :=
  ∀ (L : Nat → Bool) (v : Nat → Value) (a : Act) (w : World), L i = false → (∀ e ∈ o.after, Region.binds .any e = true → L e.on = true) → Agree A0 ops L v a → Inv L v w →
    ∀ K' : Act → World → Prop, Shut (∀ x w', Inv (dIns L i) (dUpd v i x) w' → K' (a.put o.dst x) w') → if Region.wanted o (yielded ops a.tmps) = true then Oper.wp P o a w K' Q else K' (a.put o.dst undef) w
theorem Agree.get {A0 a : Act} {L : Nat → Bool} {v : Nat → Value} (h : Agree A0 ops L v a) (k : Nat) {t : Nat} (hl : L k = true) (ho : (ops[k]?).bind (·.dst) = some t := by rfl) : a.tmps[t]?.getD undef = v k := by
  obtain ⟨o, ho, hd⟩ := Option.bind_eq_some_iff.1 ho
  rw [← Array.getD_eq_getD_getElem?]
  exact h.on k o t ho hd hl
theorem Agree.base {A0 a : Act} {L : Nat → Bool} {v : Nat → Value} (h : Agree A0 ops L v a) (t : Nat) (hb : (ops.toList.all fun o => o.dst != some t) = true) : a.tmps[t]?.getD undef = A0.tmps[t]?.getD undef := by
  rw [← Array.getD_eq_getD_getElem?, ← Array.getD_eq_getD_getElem?]
  refine h.off t fun k o ho hd => ?_
  rw [List.all_eq_true] at hb
  have := hb o (by have := Array.mem_of_getElem? ho; simpa using this)
  rw [hd] at this
  simp at this
/-- An operation number i of a DrawStep, with the way on laid open. -/
theorem DrawStep.mk {A0 : Act} {Inv : (Nat → Bool) → (Nat → Value) → World → Prop} {i : Nat} {o : Oper} (hg : o.guard = none)
    (h : ∀ (L : Nat → Bool) (v : Nat → Value) (a : Act) (w : World), L i = false → (∀ e ∈ o.after, Region.binds .any e = true → L e.on = true) → Agree A0 ops L v a → Inv L v w →
      ∀ K' : Act → World → Prop, Shut (∀ x w', Inv (dIns L i) (dUpd v i x) w' → K' (a.put o.dst x) w') → Oper.wp P o a w K' Q) : DrawStep P ops Q A0 Inv i o := by
  intro L v a w h1 h2 h3 h4 K' hK
  rw [if_pos (by unfold Region.wanted; rw [hg])]
  exact h L v a w h1 h2 h3 h4 K' hK

theorem wp_region_draws {id : Nat} {A0 : Act} {w : World} (Inv : (Nat → Bool) → (Nat → Value) → World → Prop) (hm : P.follows .mixedOrders = true)
    (hk : edgesBack ops = true) (hs : slotsOk ops A0.tmps.size = true)
    (h0 : Inv (fun _ => false) (fun _ => undef) w.drew)
    (step : AllOps ops.toList 0 (DrawStep P ops Q A0 Inv))
    (fin : ∀ (L : Nat → Bool) (v : Nat → Value) (w : World), (∀ i, i < ops.size → L i = true) → Inv L v w → Q .normal (putAll ops.toList 0 v A0) w) : (Code.region id ops true).wp P Q A0 w := by
  refine wp_region_any hm ?_
  refine wpAny_inv (I := fun L a w => ∃ v, Agree A0 ops (fun j => L.getD j false) v a ∧ Inv (fun j => L.getD j false) v w) hk ?_ ?_ _ _ _ _ (by simp) ?_ ?_
  · rintro L i o a w hLs ho hL hdep ⟨v, hA, hI⟩
    have hi := (Array.getElem?_eq_some_iff.1 ho).1
    have hiL : i < L.size := by omega
    have hLi : L.getD i false = false := by
      simp only [Array.getD, hiL, dif_pos] at hL ⊢; exact hL
    have hst := step.get i o (by simpa using ho)
    rw [Nat.zero_add] at hst
    have hst := hst _ v a w hLi hdep hA hI
    have hins : (fun j => (L.setIfInBounds i true).getD j false) = dIns (fun j => L.getD j false) i := by
      funext j
      unfold dIns
      by_cases hj : j = i
      · subst hj; simp [Array.getD_eq_getD_getElem?, hiL]
      · simp [Array.getD_eq_getD_getElem?, Ne.symm hj, hj]
    refine wpOp_step ho fun K' hK => hst K' ?_
    intro x w' hI'
    exact hK _ _ ⟨_, by rw [hins]; exact hA.put hs ho x, by rw [hins]; exact hI'⟩
  · rintro L a w hLs hall ⟨v, hA, hI⟩
    have hall' : ∀ i, i < ops.size → L.getD i false = true := by
      intro i hi
      have h1 : i < L.size := by omega
      have := hall i hi
      simp only [Array.getD, h1, dif_pos] at this ⊢; exact this
    have e : a = putAll ops.toList 0 v A0 := by
      refine Agree.uniq (L := fun _ => true) (v := v) (hA.congr (fun k hk => hall' k hk) (fun _ _ _ => rfl)) ?_
      exact Agree.all hs v ops.toList 0 A0 (by simp) ((Agree.start A0 ops v).congr (fun k hk => by simp) (fun _ _ h => by cases h))
    rw [e]
    exact fin _ v w hall' hI
  · simp
  · have e : (fun j => (Array.replicate ops.size false).getD j false) = fun _ => false := by
      funext j
      simp only [Array.getD_eq_getD_getElem?, Array.getElem?_replicate]
      split <;> rfl
    rw [e]
    exact ⟨_, Agree.start A0 ops _, h0⟩
end
section
open SP
variable {W w w' : World} {R : List SP}
/-- A table that a region lays and then indexes: the part of its array. -/
def Tb (l : Bool) (v : Value) (T : TypeId) (xs : List Value) : SP :=
  if l = true then ex fun (g : Nat) => st [pu (v = .slice (some ⟨g, 0, none⟩) xs.length xs.length), cel g T xs] else pu True
theorem Tb.no {v : Value} {T : TypeId} {xs : List Value} (o : Own w R) : Own w (Tb false v T xs :: R) := by
  unfold Tb
  rw [if_neg (by decide)]
  exact Own.pu.2 ⟨trivial, o⟩
theorem Tb.new {v : Value} {T : TypeId} {xs : List Value} (_ : Own w (Tb false v T xs :: R)) (g : Nat) (o' : Own w' (cel g T xs :: Tb false v T xs :: R)) : Own w' (Tb true (.slice (some ⟨g, 0, none⟩) xs.length xs.length) T xs :: R) := by
  unfold Tb at o' ⊢
  rw [if_neg (by decide)] at o'
  rw [if_pos rfl]
  exact Own.ex.2 ⟨g, Own.st.2 (Own.pu.2 ⟨rfl, o'.swap.drop⟩)⟩
theorem Tb.at {g n m : Nat} {T : TypeId} {xs : List Value} (o : Own w (Tb true (.slice (some ⟨g, 0, none⟩) n m) T xs :: R)) {j : Nat} (hj : j < xs.length) : w.cell? ⟨g, j, none⟩ = some xs[j] := by
  unfold Tb at o
  rw [if_pos rfl] at o
  obtain ⟨g', o⟩ := Own.ex.1 o
  obtain ⟨h, o⟩ := Own.pu.1 (Own.st.1 o)
  simp only [Value.slice.injEq, Option.some.injEq, Addr.mk.injEq] at h
  obtain ⟨⟨rfl, _⟩, _⟩ := h
  exact Own.cell o j (List.getElem?_eq_getElem hj)
theorem Tb.val {v : Value} {T : TypeId} {xs : List Value} (o : Own w (Tb true v T xs :: R)) : ∃ g : Nat, v = .slice (some ⟨g, 0, none⟩) xs.length xs.length := by
  unfold Tb at o
  rw [if_pos rfl] at o
  obtain ⟨g, o⟩ := Own.ex.1 o
  exact ⟨g, (Own.pu.1 (Own.st.1 o)).1⟩
theorem tblInt {k : IntKind} (l : List Int) {x : Value} (h : x ∈ l.map (Value.int k)) : ∃ y : Int, x = .int k y := by
  obtain ⟨y, _, rfl⟩ := List.mem_map.1 h
  exact ⟨y, rfl⟩
/-- What is known of the values of such a table's operations: move, call, address, load. -/
structure TD (L : Nat → Bool) (v : Nat → Value) (cb b m c a l : Nat) (xs : List Value) : Prop where
  move : L m = true → v m = .pointer (some ⟨cb, 0, none⟩)
  call : L c = true → ∃ j : Nat, j < xs.length ∧ v c = .int .i64 (j : Int)
  addr : L a = true → L b = true ∧ ∃ g j : Nat, j < xs.length ∧ v b = .slice (some ⟨g, 0, none⟩) xs.length xs.length ∧ v a = .pointer (some ⟨g, j, none⟩)
  load : L l = true → v l ∈ xs
theorem TD.no {v : Nat → Value} {cb b m c a l : Nat} {xs : List Value} : TD (fun _ => false) v cb b m c a l xs :=
  ⟨fun h => (Bool.false_ne_true h).elim, fun h => (Bool.false_ne_true h).elim, fun h => (Bool.false_ne_true h).elim, fun h => (Bool.false_ne_true h).elim⟩
theorem TD.other {L : Nat → Bool} {v : Nat → Value} {cb b m c a l : Nat} {xs : List Value} (h : TD L v cb b m c a l xs) {i : Nat} (x : Value) (hL : L i = false) (hn : i ≠ m ∧ i ≠ c ∧ i ≠ a ∧ i ≠ l) :
    TD (dIns L i) (dUpd v i x) cb b m c a l xs := by
  obtain ⟨h1, h2, h3, h4⟩ := hn
  refine ⟨fun hh => ?_, fun hh => ?_, fun hh => ?_, fun hh => ?_⟩
  · simp only [dIns, dUpd, if_neg (Ne.symm h1)] at hh ⊢; exact h.move hh
  · simp only [dIns, dUpd, if_neg (Ne.symm h2)] at hh ⊢; exact h.call hh
  · simp only [dIns, if_neg (Ne.symm h3)] at hh
    obtain ⟨k1, g, j, k2, k3, k4⟩ := h.addr hh
    have hb : b ≠ i := by rintro rfl; rw [hL] at k1; cases k1
    simp only [dIns, dUpd, if_neg (Ne.symm h3), if_neg hb]
    exact ⟨k1, g, j, k2, k3, k4⟩
  · simp only [dIns, dUpd, if_neg (Ne.symm h4)] at hh ⊢; exact h.load hh
theorem TD.doMove {L : Nat → Bool} {v : Nat → Value} {cb b m c a l : Nat} {xs : List Value} (h : TD L v cb b m c a l xs) (hL : L m = false) (hn : m ≠ c ∧ m ≠ a ∧ m ≠ l) :
    TD (dIns L m) (dUpd v m (.pointer (some ⟨cb, 0, Option.none⟩))) cb b m c a l xs := by
  obtain ⟨h2, h3, h4⟩ := hn
  refine ⟨fun _ => by simp [dUpd], fun hh => ?_, fun hh => ?_, fun hh => ?_⟩
  · simp only [dIns, dUpd, if_neg (Ne.symm h2)] at hh ⊢; exact h.call hh
  · simp only [dIns, if_neg (Ne.symm h3)] at hh
    obtain ⟨k1, g, j, k2, k3, k4⟩ := h.addr hh
    have hb : b ≠ m := by rintro rfl; rw [hL] at k1; cases k1
    simp only [dIns, dUpd, if_neg (Ne.symm h3), if_neg hb]
    exact ⟨k1, g, j, k2, k3, k4⟩
  · simp only [dIns, dUpd, if_neg (Ne.symm h4)] at hh ⊢; exact h.load hh
theorem TD.doCall {L : Nat → Bool} {v : Nat → Value} {cb b m c a l : Nat} {xs : List Value} (h : TD L v cb b m c a l xs) (hL : L c = false) (hn : c ≠ m ∧ c ≠ a ∧ c ≠ l) {j : Nat} (hj : j < xs.length) :
    TD (dIns L c) (dUpd v c (.int .i64 (j : Int))) cb b m c a l xs := by
  obtain ⟨h2, h3, h4⟩ := hn
  refine ⟨fun hh => ?_, fun hh => ⟨j, hj, by simp [dUpd]⟩, fun hh => ?_, fun hh => ?_⟩
  · simp only [dIns, dUpd, if_neg (Ne.symm h2)] at hh ⊢; exact h.move hh
  · simp only [dIns, if_neg (Ne.symm h3)] at hh
    obtain ⟨k1, g, j, k2, k3, k4⟩ := h.addr hh
    have hb : b ≠ c := by rintro rfl; rw [hL] at k1; cases k1
    simp only [dIns, dUpd, if_neg (Ne.symm h3), if_neg hb]
    exact ⟨k1, g, j, k2, k3, k4⟩
  · simp only [dIns, dUpd, if_neg (Ne.symm h4)] at hh ⊢; exact h.load hh
theorem TD.doAddr {L : Nat → Bool} {v : Nat → Value} {cb b m c a l : Nat} {xs : List Value} (h : TD L v cb b m c a l xs) (hL : L a = false) (hn : a ≠ m ∧ a ≠ c ∧ a ≠ l) (hb : L b = true) {g j : Nat} (hj : j < xs.length) (hv : v b = .slice (some ⟨g, 0, Option.none⟩) xs.length xs.length) :
    TD (dIns L a) (dUpd v a (.pointer (some ⟨g, j, Option.none⟩))) cb b m c a l xs := by
  obtain ⟨h2, h3, h4⟩ := hn
  have hba : b ≠ a := by rintro rfl; rw [hL] at hb; cases hb
  refine ⟨fun hh => ?_, fun hh => ?_, fun hh => ⟨?_, g, j, hj, ?_, ?_⟩, fun hh => ?_⟩
  · simp only [dIns, dUpd, if_neg (Ne.symm h2)] at hh ⊢; exact h.move hh
  · simp only [dIns, dUpd, if_neg (Ne.symm h3)] at hh ⊢; exact h.call hh
  · simp only [dIns, if_neg hba]; exact hb
  · simp only [dUpd, if_neg hba]; exact hv
  · simp [dUpd]
  · simp only [dIns, dUpd, if_neg (Ne.symm h4)] at hh ⊢; exact h.load hh
theorem TD.doLoad {L : Nat → Bool} {v : Nat → Value} {cb b m c a l : Nat} {xs : List Value} (h : TD L v cb b m c a l xs) (hL : L l = false) (hn : l ≠ m ∧ l ≠ c ∧ l ≠ a) {x : Value} (hx : x ∈ xs) :
    TD (dIns L l) (dUpd v l x) cb b m c a l xs := by
  obtain ⟨h2, h3, h4⟩ := hn
  refine ⟨fun hh => ?_, fun hh => ?_, fun hh => ?_, fun hh => by simpa [dUpd] using hx⟩
  · simp only [dIns, dUpd, if_neg (Ne.symm h2)] at hh ⊢; exact h.move hh
  · simp only [dIns, dUpd, if_neg (Ne.symm h3)] at hh ⊢; exact h.call hh
  · simp only [dIns, if_neg (Ne.symm h4)] at hh
    obtain ⟨k1, g, j, k2, k3, k4⟩ := h.addr hh
    have hb : b ≠ l := by rintro rfl; rw [hL] at k1; cases k1
    simp only [dIns, dUpd, if_neg (Ne.symm h4), if_neg hb]
    exact ⟨k1, g, j, k2, k3, k4⟩
def dOne (b : Bool) : Nat := if b = true then 1 else 0
theorem dOne_le (b : Bool) : dOne b ≤ 1 := by unfold dOne; split <;> omega
theorem dOne_no : dOne false = 0 := rfl
theorem dOne_yes : dOne true = 1 := rfl
end
end Go.Proofs.Ytkmlkpfabkhleaa

/- The program's ledger of lags: Transfer. -/
namespace Go.Proofs.Ytkmlkpfabkhleaa
open Go.RowKit
open SP
section
variable {W w w' : World} {b N : Nat} {L : List Tg} {R : List SP}

theorem nMove_none {c s n : Int} (h : fget L c = none ∨ fget L s = none) : nMove L c s n = (6, L) := by
  unfold nMove
  rcases h with h | h
  · rw [h]
  · rw [h]; cases fget L c <;> rfl
theorem nMove_some {c s n : Int} {a d : Tg} (hc : fget L c = some a) (hs : fget L s = some d) : nMove L c s n =
    if n < 1 ∨ 4096 < n then (1, L) else if c = s then (0, L)
    else if 1099511627776 < a.s + n ∨ 1099511627776 < d.s - n ∨ a.s + n < -1099511627776 ∨ d.s - n < -1099511627776 then (2, L)
    else (0, setT ⟨s, d.w, d.s - n⟩ (setT ⟨c, a.w, a.s + n⟩ L)) := by
  unfold nMove; rw [hc, hs]
/-- What a lookup gives. -/
theorem lookN_any {ab : Nat} {m : List (Int × Tg)} (o : Own w (mpI accV ab m :: R)) (hm : RepN m L) (k : Int) :
    ∃ (wt s : Int) (z : Bool), (Instr.lookup 144 (.map (some ab)) (.int .i64 k) true).run Try.prog w = .ok (.tuple #[.agg #[.int .i64 wt, .int .i64 s], .bool z]) w ∧ (z = true → ∃ t, fget L k = some t ∧ t.w = wt ∧ t.s = s) ∧ (z = false → fget L k = none) := by
  cases hf : fget L k with
  | none => exact ⟨0, 0, false, lookN_none o hm hf, fun h => by simp at h, fun _ => rfl⟩
  | some t => exact ⟨t.w, t.s, true, lookN_some o hm hf, fun _ => ⟨t, rfl, rfl, rfl⟩, fun h => by simp at h⟩

def mvMap (c s : Int) (a d : Tg) (x y : Int) (m : List (Int × Tg)) (L : Nat → Bool) : List (Int × Tg) :=
  if L 17 then mput (mput m c ⟨c, a.w, x⟩) s ⟨s, d.w, y⟩ else if L 14 then mput m c ⟨c, a.w, x⟩ else m
def MvInv (b h g ab : Nat) (c s : Int) (a d : Tg) (x y : Int) (m : List (Int × Tg)) (R : List SP) (w : World) (L : Nat → Bool) (v : Nat → Value) (wc : World) : Prop :=
  Own wc (mpI accV ab (mvMap c s a d x y m L) :: cel g 142 [.int .i64 d.w, .int .i64 y] :: cel h 142 [.int .i64 a.w, .int .i64 x] :: cel b 146 [.map (some ab)] :: R) ∧ Calm w wc ∧
  ((L 0 = true → v 0 = .pointer (some ⟨b, 0, none⟩)) ∧ (L 1 = true → v 1 = .pointer (some ⟨b, 0, none⟩)) ∧ (L 2 = true → v 2 = .pointer (some ⟨b, 0, none⟩)) ∧ (L 3 = true → v 3 = .map (some ab)) ∧
  (L 4 = true → v 4 = .int .i64 c) ∧ (L 5 = true → v 5 = .pointer (some ⟨b, 0, none⟩)) ∧ (L 6 = true → v 6 = .pointer (some ⟨b, 0, none⟩)) ∧ (L 7 = true → v 7 = .pointer (some ⟨b, 0, none⟩)) ∧
  (L 8 = true → v 8 = .map (some ab)) ∧ (L 9 = true → v 9 = .int .i64 s) ∧ (L 10 = true → v 10 = .agg #[.int .i64 a.w, .int .i64 x]) ∧ (L 11 = true → v 11 = .agg #[.int .i64 d.w, .int .i64 y])) ∧
  (L 12 = true → ∃ born : Nat, v 12 = .tuple #[accV a, .int .i64 (born : Int)] ∧ (L 13 = true → v 13 = .int .i64 (born : Int)) ∧ (L 14 = false → BornAt m wc ab c born)) ∧
  (L 15 = true → ∃ born : Nat, v 15 = .tuple #[accV d, .int .i64 (born : Int)] ∧ (L 16 = true → v 16 = .int .i64 (born : Int)) ∧ (L 17 = false → BornAt (mput m c ⟨c, a.w, x⟩) wc ab s born)) ∧
  (L 13 = true → L 12 = true) ∧ (L 14 = true → L 13 = true) ∧ (L 15 = true → L 14 = true) ∧ (L 16 = true → L 15 = true) ∧ (L 17 = true → L 16 = true)

set_option maxHeartbeats 3200000 in
set_option maxRecDepth 100000 in
theorem lagMove_spec (c s n : Int) (hN : (N : Int) ≤ 1000000000000) (o : Own w (LagR b N L :: R)) :
    Calls Try.prog 40 #[.pointer (some ⟨b, 0, none⟩), .int .i64 c, .int .i64 s, .int .i64 n] w (Ret (.int .i64 (nMove L c s n).1) (LagR b (N + 1) (nMove L c s n).2 :: R) w) := by
  obtain ⟨ab, m, hm, hok, o1⟩ := LagR.iff.1 o
  have o' := LagR.le (Nat.le_succ N) o
  have c1 := o1.cell 0
  have hbl := o1.celLt
  have hbn : b ≠ w.heap.size := by omega
  have hbn2 : b ≠ w.heap.size + 1 := by omega
  obtain ⟨wa, sa, za, hla, ta, fa⟩ := lookN_any (o1.up 1) hm c
  obtain ⟨wd, sd, zd, hld, td, fd⟩ := lookN_any ((o1.alloc (.cells #[.int .i64 wa, .int .i64 sa] 142)).up 2) hm s
  have fin : ∀ x y, Ret (.int .i64 6) (LagR b (N + 1) L :: R) w (.returned (.int .i64 6)) ((w.alloc x).alloc y) := fun x y => ⟨rfl, (o'.more x).more y, ⟨rfl, rfl, rfl⟩⟩
  cases za with
  | false =>
    rw [nMove_none (.inl (fa rfl))]
    clear ta fa td fd
    cases zd
    all_goals
      go_enter Try.func40, Try.ntmps40
      go_wp2
      go_ret
      exact fin _ _
  | true =>
    cases zd with
    | false =>
      rw [nMove_none (.inr (fd rfl))]
      clear ta fa td fd
      go_enter Try.func40, Try.ntmps40
      go_wp2
      go_ret
      exact fin _ _
    | true =>
      obtain ⟨a, hfa, rfl, rfl⟩ := ta rfl
      obtain ⟨d, hfd, rfl, rfl⟩ := td rfl
      rw [nMove_some hfa hfd]
      clear fin ta fa td fd
      by_cases hbad : n < 1 ∨ 4096 < n
      · rw [if_pos hbad]
        have fin : ∀ x y, Ret (.int .i64 1) (LagR b (N + 1) L :: R) w (.returned (.int .i64 1)) ((w.alloc x).alloc y) := fun x y => ⟨rfl, (o'.more x).more y, ⟨rfl, rfl, rfl⟩⟩
        by_cases h1 : n < 1
        · clear hbad
          go_enter Try.func40, Try.ntmps40
          go_wp2
          go_ret
          exact fin _ _
        · have h2 : 4096 < n := by omega
          clear hbad
          go_enter Try.func40, Try.ntmps40
          go_wp2
          go_ret
          exact fin _ _
      · rw [if_neg hbad]
        have h1 : ¬ n < 1 := by omega
        have h2 : ¬ 4096 < n := by omega
        clear hbad
        by_cases hcs : c = s
        · rw [if_pos hcs]
          subst hcs
          have fin : ∀ x y, Ret (.int .i64 0) (LagR b (N + 1) L :: R) w (.returned (.int .i64 0)) ((w.alloc x).alloc y) := fun x y => ⟨rfl, (o'.more x).more y, ⟨rfl, rfl, rfl⟩⟩
          go_enter Try.func40, Try.ntmps40
          go_wp2
          go_ret
          exact fin _ _
        · rw [if_neg hcs]
          have hcb : (c == s) = false := by simpa using hcs
          have hla2 := hok.lag (fget_some hfa).1
          have hld2 := hok.lag (fget_some hfd).1
          have hra := hok.ok.rng a (fget_some hfa).1
          have hrd := hok.ok.rng d (fget_some hfd).1
          obtain ⟨x, hx⟩ : ∃ x, a.s + n = x := ⟨_, rfl⟩
          obtain ⟨y, hy⟩ : ∃ y, d.s - n = y := ⟨_, rfl⟩
          have wx : IntKind.i64.wrap (a.s + n) = x := by rw [IntKind.wrap_i64]; omega
          have wy : IntKind.i64.wrap (d.s - n) = y := by rw [IntKind.wrap_i64]; omega
          have hms := nMove_ok hok c s n
          rw [nMove_some hfa hfd, if_neg (by omega), if_neg hcs] at hms
          rw [hx, hy] at hms ⊢
          obtain ⟨M, hM⟩ : ∃ M, max x y = M := ⟨_, rfl⟩
          obtain ⟨K, hK⟩ : ∃ K, min x y = K := ⟨_, rfl⟩
          by_cases hr : 1099511627776 < x ∨ 1099511627776 < y ∨ x < -1099511627776 ∨ y < -1099511627776
          · rw [if_pos hr]
            clear hms hx hy hla2 hld2 hra hrd
            by_cases hM2 : 1099511627776 < M
            · have f1 : decide (1099511627776 < M) = true := decide_eq_true hM2
              go_enter Try.func40, Try.ntmps40
              go_wp2
              go_ret
              exact ⟨rfl, (o'.more _).more _, ⟨rfl, rfl, rfl⟩⟩
            · have f1 : decide (1099511627776 < M) = false := decide_eq_false hM2
              have f2 : decide (K < -1099511627776) = true := decide_eq_true (by omega)
              go_enter Try.func40, Try.ntmps40
              go_wp2
              go_ret
              exact ⟨rfl, (o'.more _).more _, ⟨rfl, rfl, rfl⟩⟩
          · rw [if_neg hr] at hms ⊢
            have f1 : decide (1099511627776 < M) = false := decide_eq_false (by omega)
            have f2 : decide (K < -1099511627776) = false := decide_eq_false (by omega)
            have hrep1 : RepN (mput m c ⟨c, a.w, x⟩) (setT ⟨c, a.w, x⟩ L) := hm.set (x := ⟨c, a.w, x⟩) (by show fget L c ≠ none; rw [hfa]; simp) (by have := (fget_some hfa).2; refine ⟨?_, ?_, ?_, ?_⟩ <;> (simp only; omega))
            have hfd2 : fget (setT ⟨c, a.w, x⟩ L) s = some d := by
              have h5 := fget_memN hrep1.ok (mem_setT_of (fget_some hfd).1 (x := ⟨c, a.w, x⟩) (by have := (fget_some hfd).2; simp only; omega))
              rw [(fget_some hfd).2] at h5
              exact h5
            have hrep2 : RepN (mput (mput m c ⟨c, a.w, x⟩) s ⟨s, d.w, y⟩) (setT ⟨s, d.w, y⟩ (setT ⟨c, a.w, x⟩ L)) := hrep1.set (x := ⟨s, d.w, y⟩) (by show fget _ s ≠ none; rw [hfd2]; simp) (by have := (fget_some hfd).2; refine ⟨?_, ?_, ?_, ?_⟩ <;> (simp only; omega))
            have hga : mget m c = some a := by rw [hm.get]; exact hfa
            have hgd : mget (mput m c ⟨c, a.w, x⟩) s = some d := by rw [hrep1.get]; exact hfd2
            have hok2 := hms.1
            have oA := o1.alloc (.cells #[.int .i64 a.w, .int .i64 x] 142)
            have oB := oA.alloc (.cells #[.int .i64 d.w, .int .i64 y] 142)
            clear hms hr hx hy hla2 hld2 hra hrd hrep1 hfd2 hfa hfd o' hm hok
            go_enter Try.func40, Try.ntmps40
            go_wp2
            refine wp_region_draws (MvInv b w.heap.size (w.heap.size + 1) ab c s a d x y m R w) (by kernel_rfl) (by kernel_rfl) (by kernel_rfl) ?h0 ?step ?fin
            case h0 =>
              have F : ∀ {p : Prop}, false = true → p := fun h => (Bool.false_ne_true h).elim
              simp only [World.size_alloc] at oB
              exact ⟨(oB.re [3, 0, 1, 2]).drew, ⟨rfl, rfl, rfl⟩, ⟨F, F, F, F, F, F, F, F, F, F, F, F⟩, F, F, F, F, F, F, F⟩
            case step =>
              refine ⟨DrawStep.mk rfl ?_, DrawStep.mk rfl ?_, DrawStep.mk rfl ?_, DrawStep.mk rfl ?_, DrawStep.mk rfl ?_, DrawStep.mk rfl ?_, DrawStep.mk rfl ?_, DrawStep.mk rfl ?_, DrawStep.mk rfl ?_, DrawStep.mk rfl ?_, DrawStep.mk rfl ?_, DrawStep.mk rfl ?_, DrawStep.mk rfl ?_, DrawStep.mk rfl ?_, DrawStep.mk rfl ?_, DrawStep.mk rfl ?_, DrawStep.mk rfl ?_, DrawStep.mk rfl ?_, trivial⟩
              all_goals intro L v ac wc hL hd hA hI K' hK
              all_goals obtain ⟨oD, kD, ⟨f0, f1, f2, f3, f4, f5, f6, f7, f8, f9, f10, f11⟩, e12, e15, l13, l14, l15, l16, l17⟩ := hI
              all_goals simp [Region.binds] at hd
              · have c0 := hA.base 0 (by rfl)
                simp only [List.getElem?_toArray, List.getElem?_cons_zero, Option.getD_some] at c0
                go_simp
                exact hK.out _ _ ⟨oD, kD, ⟨fun _ => rfl, f1, f2, f3, f4, f5, f6, f7, f8, f9, f10, f11⟩, e12, e15, l13, l14, l15, l16, l17⟩
              · have c0 := (hA.get 0 hd).trans (f0 hd)
                go_simp
                exact hK.out _ _ ⟨oD, kD, ⟨f0, fun _ => rfl, f2, f3, f4, f5, f6, f7, f8, f9, f10, f11⟩, e12, e15, l13, l14, l15, l16, l17⟩
              · have c0 := (hA.get 1 hd).trans (f1 hd)
                go_simp
                exact hK.out _ _ ⟨oD, kD, ⟨f0, f1, fun _ => rfl, f3, f4, f5, f6, f7, f8, f9, f10, f11⟩, e12, e15, l13, l14, l15, l16, l17⟩
              · have c0 := (hA.get 2 hd).trans (f2 hd)
                have cc := (oD.up 3).cell 0
                go_simp
                exact hK.out _ _ ⟨oD, kD, ⟨f0, f1, f2, fun _ => rfl, f4, f5, f6, f7, f8, f9, f10, f11⟩, e12, e15, l13, l14, l15, l16, l17⟩
              · have c0 := hA.base 1 (by rfl)
                simp only [List.getElem?_toArray, List.getElem?_cons_zero, List.getElem?_cons_succ, Option.getD_some] at c0
                go_simp
                exact hK.out _ _ ⟨oD, kD, ⟨f0, f1, f2, f3, fun _ => rfl, f5, f6, f7, f8, f9, f10, f11⟩, e12, e15, l13, l14, l15, l16, l17⟩
              · have c0 := hA.base 0 (by rfl)
                simp only [List.getElem?_toArray, List.getElem?_cons_zero, Option.getD_some] at c0
                go_simp
                exact hK.out _ _ ⟨oD, kD, ⟨f0, f1, f2, f3, f4, fun _ => rfl, f6, f7, f8, f9, f10, f11⟩, e12, e15, l13, l14, l15, l16, l17⟩
              · have c0 := (hA.get 5 hd).trans (f5 hd)
                go_simp
                exact hK.out _ _ ⟨oD, kD, ⟨f0, f1, f2, f3, f4, f5, fun _ => rfl, f7, f8, f9, f10, f11⟩, e12, e15, l13, l14, l15, l16, l17⟩
              · have c0 := (hA.get 6 hd).trans (f6 hd)
                go_simp
                exact hK.out _ _ ⟨oD, kD, ⟨f0, f1, f2, f3, f4, f5, f6, fun _ => rfl, f8, f9, f10, f11⟩, e12, e15, l13, l14, l15, l16, l17⟩
              · have c0 := (hA.get 7 hd).trans (f7 hd)
                have cc := (oD.up 3).cell 0
                go_simp
                exact hK.out _ _ ⟨oD, kD, ⟨f0, f1, f2, f3, f4, f5, f6, f7, fun _ => rfl, f9, f10, f11⟩, e12, e15, l13, l14, l15, l16, l17⟩
              · have c0 := hA.base 2 (by rfl)
                simp only [List.getElem?_toArray, List.getElem?_cons_zero, List.getElem?_cons_succ, Option.getD_some] at c0
                go_simp
                exact hK.out _ _ ⟨oD, kD, ⟨f0, f1, f2, f3, f4, f5, f6, f7, f8, fun _ => rfl, f10, f11⟩, e12, e15, l13, l14, l15, l16, l17⟩
              · have c0 := hA.base 9 (by rfl)
                simp only [List.getElem?_toArray, List.getElem?_cons_zero, List.getElem?_cons_succ, Option.getD_some] at c0
                have cc := (oD.up 2).cell 0
                have cc1 := (oD.up 2).cell 1
                go_simp
                exact hK.out _ _ ⟨oD, kD, ⟨f0, f1, f2, f3, f4, f5, f6, f7, f8, f9, fun _ => rfl, f11⟩, e12, e15, l13, l14, l15, l16, l17⟩
              · have c0 := hA.base 11 (by rfl)
                simp only [List.getElem?_toArray, List.getElem?_cons_zero, List.getElem?_cons_succ, Option.getD_some] at c0
                have cc := (oD.up 1).cell 0
                have cc1 := (oD.up 1).cell 1
                go_simp
                exact hK.out _ _ ⟨oD, kD, ⟨f0, f1, f2, f3, f4, f5, f6, f7, f8, f9, f10, fun _ => rfl⟩, e12, e15, l13, l14, l15, l16, l17⟩
              · have c0 := (hA.get 3 hd.1).trans (f3 hd.1)
                have c4 := (hA.get 4 hd.2.1).trans (f4 hd.2.1)
                have n13 : L 13 = false := by cases h : L 13 with | false => rfl | true => rw [l13 h] at hL; cases hL
                have n14 : L 14 = false := by cases h : L 14 with | false => rfl | true => rw [l14 h] at n13; cases n13
                have n15 : L 15 = false := by cases h : L 15 with | false => rfl | true => rw [l15 h] at n14; cases n14
                have n16 : L 16 = false := by cases h : L 16 with | false => rfl | true => rw [l16 h] at n15; cases n15
                have n17 : L 17 = false := by cases h : L 17 with | false => rfl | true => rw [l17 h] at n16; cases n16
                have eM : mvMap c s a d x y m L = m := by unfold mvMap; rw [n17, n14]; rfl
                rw [eM] at oD
                obtain ⟨w2, born, hr, hB, o2, k2⟩ := run_mapEntry_mpI Try.underlying144 Try.underlying3 oD c hga
                have o3 : Own w2 (mpI accV ab (mvMap c s a d x y m L) :: cel (w.heap.size + 1) 142 [.int .i64 d.w, .int .i64 y] :: cel w.heap.size 142 [.int .i64 a.w, .int .i64 x] :: cel b 146 [.map (some ab)] :: R) := by rw [eM]; exact o2
                go_simp
                exact hK.out _ _ ⟨o3, kD.trans k2, ⟨f0, f1, f2, f3, f4, f5, f6, f7, f8, f9, f10, f11⟩, fun _ => ⟨born, rfl, fun h => (Bool.false_ne_true (n13.symm.trans h)).elim, fun _ => hB⟩, fun h => (Bool.false_ne_true (n15.symm.trans h)).elim, fun h => rfl, l14, l15, l16, l17⟩
              · obtain ⟨born, h12, h13, hB⟩ := e12 hd
                have c0 := (hA.get 12 hd).trans h12
                go_simp
                exact hK.out _ _ ⟨oD, kD, ⟨f0, f1, f2, f3, f4, f5, f6, f7, f8, f9, f10, f11⟩, fun _ => ⟨born, h12, fun _ => rfl, hB⟩, e15, fun _ => hd, fun h => rfl, l15, l16, l17⟩
              · obtain ⟨born, h12, h13, hB⟩ := e12 hd.2.2.2.1
                have c0 := (hA.get 3 hd.1).trans (f3 hd.1)
                have c1' := (hA.get 13 hd.2.1).trans (h13 hd.2.1)
                have c2 := (hA.get 10 hd.2.2.1).trans (f10 hd.2.2.1)
                have hd13 := hd.2.1
                have n15 : L 15 = false := by cases h : L 15 with | false => rfl | true => rw [l15 h] at hL; cases hL
                have n16 : L 16 = false := by cases h : L 16 with | false => rfl | true => rw [l16 h] at n15; cases n15
                have n17 : L 17 = false := by cases h : L 17 with | false => rfl | true => rw [l17 h] at n16; cases n16
                have eM : mvMap c s a d x y m L = m := by unfold mvMap; rw [n17, hL]; rfl
                rw [eM] at oD
                obtain ⟨w2, hr, o2, k2⟩ := run_entryStore_mpI (P := Try.prog) (t := 144) oD c ⟨c, a.w, x⟩ (hB hL)
                have o3 : Own w2 (mpI accV ab (mvMap c s a d x y m (dIns L 14)) :: cel (w.heap.size + 1) 142 [.int .i64 d.w, .int .i64 y] :: cel w.heap.size 142 [.int .i64 a.w, .int .i64 x] :: cel b 146 [.map (some ab)] :: R) := by
                  have : mvMap c s a d x y m (dIns L 14) = mput m c ⟨c, a.w, x⟩ := by unfold mvMap; rw [show dIns L 14 17 = L 17 from rfl, n17]; rfl
                  rw [this]; exact o2
                have hr' : (Instr.entryStore 144 (.map (some ab)) (.int .i64 (born : Int)) (.agg #[.int .i64 a.w, .int .i64 x])).run Try.prog wc = .ok () w2 := hr
                go_simp
                exact hK.out undef _ ⟨o3, kD.trans k2, ⟨f0, f1, f2, f3, f4, f5, f6, f7, f8, f9, f10, f11⟩, fun h => ⟨born, h12, h13, fun h => (Bool.false_ne_true h.symm).elim⟩, fun h => (Bool.false_ne_true (n15.symm.trans h)).elim, l13, fun _ => hd13, fun h => rfl, l16, l17⟩
              · have c0 := (hA.get 8 hd.1).trans (f8 hd.1)
                have c4 := (hA.get 9 hd.2.1).trans (f9 hd.2.1)
                have h14 := hd.2.2.1
                have n16 : L 16 = false := by cases h : L 16 with | false => rfl | true => rw [l16 h] at hL; cases hL
                have n17 : L 17 = false := by cases h : L 17 with | false => rfl | true => rw [l17 h] at n16; cases n16
                have eM : mvMap c s a d x y m L = mput m c ⟨c, a.w, x⟩ := by unfold mvMap; rw [n17, h14]; rfl
                rw [eM] at oD
                obtain ⟨w2, born, hr, hB, o2, k2⟩ := run_mapEntry_mpI Try.underlying144 Try.underlying3 oD s hgd
                have o3 : Own w2 (mpI accV ab (mvMap c s a d x y m L) :: cel (w.heap.size + 1) 142 [.int .i64 d.w, .int .i64 y] :: cel w.heap.size 142 [.int .i64 a.w, .int .i64 x] :: cel b 146 [.map (some ab)] :: R) := by rw [eM]; exact o2
                have e12' : ∃ born : Nat, v 12 = .tuple #[accV a, .int .i64 (born : Int)] ∧ (L 13 = true → v 13 = .int .i64 (born : Int)) ∧ (L 14 = false → BornAt m w2 ab c born) := by
                  obtain ⟨b0, h1, h2, _⟩ := e12 (l13 (l14 h14))
                  exact ⟨b0, h1, h2, fun h => (by rw [h14] at h; cases h)⟩
                go_simp
                exact hK.out _ _ ⟨o3, kD.trans k2, ⟨f0, f1, f2, f3, f4, f5, f6, f7, f8, f9, f10, f11⟩, fun _ => e12', fun _ => ⟨born, rfl, fun h => (Bool.false_ne_true (n16.symm.trans h)).elim, fun _ => hB⟩, l13, l14, fun _ => h14, fun h => rfl, l17⟩
              · obtain ⟨born, h12, h13, hB⟩ := e15 hd
                have c0 := (hA.get 15 hd).trans h12
                go_simp
                exact hK.out _ _ ⟨oD, kD, ⟨f0, f1, f2, f3, f4, f5, f6, f7, f8, f9, f10, f11⟩, e12, fun _ => ⟨born, h12, fun _ => rfl, hB⟩, l13, l14, l15, fun _ => hd, fun h => rfl⟩
              · obtain ⟨born, h12, h13, hB⟩ := e15 hd.2.2.2.1
                have c0 := (hA.get 8 hd.1).trans (f8 hd.1)
                have c1' := (hA.get 16 hd.2.1).trans (h13 hd.2.1)
                have c2 := (hA.get 11 hd.2.2.1).trans (f11 hd.2.2.1)
                have hd16 := hd.2.1
                have h14 := l15 (l16 hd16)
                have eM : mvMap c s a d x y m L = mput m c ⟨c, a.w, x⟩ := by unfold mvMap; rw [hL, h14]; rfl
                rw [eM] at oD
                obtain ⟨w2, hr, o2, k2⟩ := run_entryStore_mpI (P := Try.prog) (t := 144) oD s ⟨s, d.w, y⟩ (hB hL)
                have o3 : Own w2 (mpI accV ab (mvMap c s a d x y m (dIns L 17)) :: cel (w.heap.size + 1) 142 [.int .i64 d.w, .int .i64 y] :: cel w.heap.size 142 [.int .i64 a.w, .int .i64 x] :: cel b 146 [.map (some ab)] :: R) := o2
                have hr' : (Instr.entryStore 144 (.map (some ab)) (.int .i64 (born : Int)) (.agg #[.int .i64 d.w, .int .i64 y])).run Try.prog wc = .ok () w2 := hr
                have e12' : ∃ born : Nat, v 12 = .tuple #[accV a, .int .i64 (born : Int)] ∧ (L 13 = true → v 13 = .int .i64 (born : Int)) ∧ (L 14 = false → BornAt m w2 ab c born) := by
                  obtain ⟨b0, h1, h2, _⟩ := e12 (l13 (l14 h14))
                  exact ⟨b0, h1, h2, fun h => (by rw [h14] at h; cases h)⟩
                go_simp
                exact hK.out undef _ ⟨o3, kD.trans k2, ⟨f0, f1, f2, f3, f4, f5, f6, f7, f8, f9, f10, f11⟩, fun _ => e12', fun h => ⟨born, h12, h13, fun h => (Bool.false_ne_true h.symm).elim⟩, l13, l14, l15, l16, fun _ => hd16⟩
            case fin =>
              rintro L v wc hall ⟨oD, kD, _⟩
              have eM : mvMap c s a d x y m L = mput (mput m c ⟨c, a.w, x⟩) s ⟨s, d.w, y⟩ := by unfold mvMap; rw [hall 17 (by decide)]; rfl
              rw [eM] at oD
              clear hall
              simp only [putAll, Act.put, List.setIfInBounds_toArray, List.set_cons_zero, List.set_cons_succ]
              go_wp2
              go_ret
              exact ⟨rfl, LagR.iff.2 ⟨ab, _, hrep2, hok2, oD.re [3, 0, 1, 2] |>.re [0, 1] |> fun q => (q.up 2).drop.up 2 |>.drop⟩, kD⟩
end
end Go.Proofs.Ytkmlkpfabkhleaa

/- The program's ledger of lags: Leave. -/
namespace Go.Proofs.Ytkmlkpfabkhleaa
open Go.RowKit
open SP
section
variable {W w w' : World} {b N : Nat} {L : List Tg} {R : List SP}

theorem setT_none {x : Tg} : ∀ {L : List Tg}, (∀ t ∈ L, t.f ≠ x.f) → setT x L = L
  | [], _ => rfl
  | a :: L, h => by
    show (if a.f = x.f then x else a) :: setT x L = _
    rw [if_neg (h a (by simp)), setT_none fun t ht => h t (by simp [ht])]
theorem addS_step : ∀ {L : List Tg} {Q : List Int} {i : Nat} {t : Tg} {q : Int}, (L.map (·.f)).Pairwise (· < ·) → L[i]? = some t → Q[i]? = some q →
    (addS L (Q.take i))[i]? = some t ∧ setT ⟨t.f, t.w, t.s + q⟩ (addS L (Q.take i)) = addS L (Q.take (i + 1))
  | [], _, i, t, q, _, h, _ => by simp at h
  | _ :: _, [], i, t, q, _, _, h => by simp at h
  | a :: L, p :: Q, 0, t, q, hp, h, h' => by
    rw [List.map_cons, List.pairwise_cons] at hp
    simp only [List.getElem?_cons_zero, Option.some.injEq] at h h'
    subst h; subst h'
    rw [List.take_zero, addS_nil]
    refine ⟨rfl, ?_⟩
    show (if a.f = a.f then (⟨a.f, a.w, a.s + p⟩ : Tg) else a) :: setT ⟨a.f, a.w, a.s + p⟩ L = ⟨a.f, a.w, a.s + p⟩ :: addS L []
    rw [if_pos rfl, addS_nil, setT_none]
    intro u hu
    have := hp.1 u.f (List.mem_map.2 ⟨u, hu, rfl⟩)
    simp only; omega
  | a :: L, p :: Q, i + 1, t, q, hp, h, h' => by
    rw [List.map_cons, List.pairwise_cons] at hp
    rw [List.getElem?_cons_succ] at h h'
    obtain ⟨h1, h2⟩ := addS_step (L := L) (Q := Q) hp.2 h h'
    rw [List.take_succ_cons, List.take_succ_cons, addS_cons, addS_cons]
    refine ⟨by rw [List.getElem?_cons_succ]; exact h1, ?_⟩
    have hlt := hp.1 t.f (List.mem_map.2 ⟨t, List.mem_of_getElem? h, rfl⟩)
    show (if a.f = t.f then _ else _) :: setT _ _ = _
    rw [if_neg (by omega), h2]
theorem LgOk.del (h : LgOk N L) {t : Tg} (ht : t ∈ L) : LgOk N (delT t.f L) :=
  ⟨h.ok.del _, by have h1 := (delT_sums h.ok.asc' ht).1; have h2 := h.sm; have h3 := ab_nonneg t.s; omega⟩

def LvRel (b ab h : Nat) (t : Tg) (D : List Tg) (Q : List Int) (ga pa : Option Addr) (gc pc : Nat) (R : List SP) (w : World) (v41 : Value) (wr : World) : Prop :=
  ∃ (i : Nat) (m : List (Int × Tg)), v41 = .int .i64 (i : Int) ∧ i ≤ D.length ∧ RepN m (addS D (Q.take i)) ∧
    Own wr (cel b 146 [.map (some ab)] :: mpI accV ab m :: slc 2 1 ga D.length gc (i64s Q) :: slc 134 2 pa D.length pc (flat part (ptsOf D)) :: cel h 142 [.int .i64 t.w, .int .i64 t.s] :: R) ∧ Calm w wr

end
end Go.Proofs.Ytkmlkpfabkhleaa

/- Cifq, plain: what the slots keep. -/
namespace Go.Proofs.Ytkmlkpfabkhleaa
open Go.RowKit
open SP

structure OInv (i : Nat) (o : Ord) : Prop where
  pts : PtOk o.el
  uniq : Uniq o.tg
  val : ∀ f, 0 ≤ tget o.tg f ∧ tget o.tg f ≤ i * 2952069120
  tm : 0 ≤ o.tm ∧ o.tm ≤ i * 2952069120
  low : ∀ p ∈ o.el, o.tm ≤ tget o.tg p.1
  up : ∀ f, tget o.tg f ≤ o.tm + 2952069120

theorem PtOk.sub {l m : List (Int × Int)} (h : PtOk l) (hm : m.Sublist l) : PtOk m :=
  ⟨h.asc.sublist hm, fun p hp => h.rng p (hm.subset hp), Nat.le_trans hm.length_le h.len⟩
theorem PtOk.nil : PtOk [] := ⟨.nil, by simp, by simp⟩
theorem PtOk.uniq {l : List (Int × Int)} (h : PtOk l) : Uniq l := by
  unfold Uniq
  show (l.map (·.1)).Pairwise (· ≠ ·)
  rw [List.pairwise_map]
  exact h.asc.imp fun h => by omega
theorem PtOk.key {l : List (Int × Int)} (h : PtOk l) : KeyOk l := ⟨h.uniq, fun x hx => by have := h.rng x hx; omega⟩
theorem PtOk.good {l : List (Int × Int)} (h : PtOk l) : eligBad (-1) l = false :=
  eligBad_ok l (-1) (by rw [List.pairwise_map]; exact h.asc) fun p hp => by have := h.rng p hp; omega
theorem OInv.start : OInv 0 ⟨[], [], 0⟩ := ⟨PtOk.nil, by simp [Uniq], fun f => by simp [tget, mget], by simp, by simp, fun f => by simp [tget, mget]⟩
theorem OInv.le {i j : Nat} {o : Ord} (h : OInv i o) (hj : i ≤ j) : OInv j o := by
  have hij : (i : Int) ≤ j := by omega
  exact ⟨h.pts, h.uniq, fun f => by have := h.val f; omega, by have := h.tm; omega, h.low, h.up⟩
/-- Tags that are near a small time. -/
theorem OInv.down {i : Nat} {o : Ord} (h : OInv i o) (ht : o.tm ≤ 2952069120) : OInv 2 o := by
  exact ⟨h.pts, h.uniq, fun f => by have := h.val f; have := h.up f; omega, by have := h.tm; omega, h.low, h.up⟩
theorem OInv.vals {i : Nat} {o : Ord} (h : OInv i o) : ∀ x ∈ o.tg, 0 ≤ x.2 ∧ x.2 ≤ i * 2952069120 := fun x hx => by
  rw [← tget_val h.uniq hx]; exact h.val x.1
theorem OInv.ok {i : Nat} {o : Ord} (h : OInv i o) (hi : i ≤ 370) : OrdOk o := by
  have hij : (i : Int) ≤ 370 := by omega
  exact ⟨h.pts.key, by have := h.pts.len; omega, h.uniq, fun x hx => by have := h.vals x hx; omega, by have := h.tm; omega⟩
theorem OInv.elig {i : Nat} {o : Ord} (h : OInv i o) {l : List (Int × Int)} (hl : PtOk l) : OInv i (eligO o l) := by
  unfold eligO
  have ht := h.tm
  refine ⟨by rw [eligEl_self hl.uniq]; exact hl, eligTg_uniq o.el o.tm l o.tg h.uniq, fun f => ?_, h.tm, fun p hp => ?_, fun f => ?_⟩
  · dsimp only
    rw [eligTg_get]
    have := h.val f
    split <;> omega
  · dsimp only at hp ⊢
    rw [eligEl_self hl.uniq] at hp
    rw [eligTg_get]
    split
    · omega
    · rename_i hn
      cases he : mget o.el p.1 with
      | none => exact absurd ⟨List.mem_map.2 ⟨p, hp, rfl⟩, he⟩ hn
      | some v => exact h.low (p.1, v) (mem_of_mget he)
  · dsimp only
    rw [eligTg_get]
    have := h.up f
    split <;> omega
theorem OInv.elig_el {i : Nat} {o : Ord} (_ : OInv i o) {l : List (Int × Int)} (hl : PtOk l) : (eligO o l).el = l := by
  unfold eligO; exact eligEl_self hl.uniq
theorem OInv.least {i : Nat} {o : Ord} (h : OInv i o) (hl : 0 ≤ leastF o.el o.tg) : leastF o.el o.tg ∈ o.el.map (·.1) := by
  rcases leastF_facts o.el o.tg (fun p hp => (h.pts.rng p hp).1) with ⟨_, h2⟩ | ⟨h1, _⟩
  · omega
  · exact h1
theorem OInv.least_nil {i : Nat} {o : Ord} (h : OInv i o) : leastF o.el o.tg < 0 ↔ o.el = [] := by
  rcases leastF_facts o.el o.tg (fun p hp => (h.pts.rng p hp).1) with ⟨h1, h2⟩ | ⟨h1, _⟩
  · exact ⟨fun _ => h1, fun _ => by omega⟩
  · obtain ⟨p, hp, he⟩ := List.mem_map.1 h1
    have := h.pts.rng p hp
    exact ⟨fun _ => by omega, fun e => by rw [e] at hp; cases hp⟩
/-- The least flow is served. -/
theorem OInv.serv {i : Nat} {o : Ord} (h : OInv i o) (hi : i ≤ 370) (reb : Int) {f len : Int} (hf : f = leastF o.el o.tg) (hf0 : 0 ≤ f) (h1 : 1 ≤ len) (h2 : len ≤ 4096) :
    ∃ wt, mget o.el f = some wt ∧ 1 ≤ wt ∧ wt ≤ 16 ∧ (servO reb o f len).1 = 0 ∧ OInv (i + 1) (servO reb o f len).2 ∧ (servO reb o f len).2.el = o.el ∧
      (∀ p ∈ o.el, tget o.tg f ≤ tget o.tg p.1) ∧ o.tm ≤ tget o.tg f ∧
      ∃ by_ : Int, 0 ≤ by_ ∧ by_ ≤ tget o.tg f ∧ (by_ = 0 ∧ tget o.tg f < reb ∨ by_ = tget o.tg f) ∧ (servO reb o f len).2.tm = tget o.tg f - by_ ∧
        ∀ g, tget (servO reb o f len).2.tg g = max ((if g = f then tget o.tg f + cst len wt else tget o.tg g) - by_) 0 := by
  have hij : (i : Int) ≤ 370 := by omega
  have hp0 : ∀ p ∈ o.el, 0 ≤ p.1 := fun p hp => (h.pts.rng p hp).1
  rcases leastF_facts o.el o.tg hp0 with ⟨_, he⟩ | ⟨hmem, hmin⟩
  · omega
  rw [← hf] at hmem hmin
  obtain ⟨wt, hwt⟩ := mget_isSome_of hmem
  have hin := mem_of_mget hwt
  have hw := h.pts.rng _ hin
  have hlow := h.low _ hin
  dsimp only at hw hlow
  have hg := h.val f
  have ht := h.tm
  have hel : tget o.el f = wt := by unfold tget; rw [hwt]; rfl
  obtain ⟨c1, c2⟩ := cst_range hw.2.2.1 hw.2.2.2 h1 h2
  have hfin : servFin o.el o.tg f len = (tget o.tg f + cst len wt, 0) := by
    unfold servFin finF
    rw [hel, if_neg (by unfold badLW; omega), if_neg (by omega)]
  have hE : servE o.el o.tg f len = 0 := by unfold servE; rw [hwt, hfin]; rfl
  have hTm : servTm o.tg o.tm f = tget o.tg f := by unfold servTm; omega
  have hTg : ∀ g, tget (servTg o.el o.tg f len) g = if g = f then tget o.tg f + cst len wt else tget o.tg g := fun g => by unfold servTg; rw [tget_mput, hfin]
  have hlow' : ∀ p ∈ o.el, tget o.tg f ≤ tget (servTg o.el o.tg f len) p.1 := fun p hp' => by
    rw [hTg]
    split
    · omega
    · exact hmin p hp'
  have hBy : servBy o.el o.tg o.tm f len = tget o.tg f := by
    unfold servBy
    rw [hTm]
    rcases leastF_facts o.el (servTg o.el o.tg f len) hp0 with ⟨he, _⟩ | ⟨hm2, _⟩
    · rw [he] at hin; cases hin
    · obtain ⟨q, hq, hqe⟩ := List.mem_map.1 hm2
      have := hlow' q hq
      rw [hqe] at this
      omega
  have hu1 : Uniq (servTg o.el o.tg f len) := h.uniq.mput _ _
  refine ⟨wt, hwt, hw.2.2.1, hw.2.2.2, ?_⟩
  unfold servO
  rw [if_neg (by rw [hE]; simp), hBy, hTm]
  by_cases hb : tget o.tg f < reb
  · rw [if_pos hb]
    refine ⟨rfl, ⟨h.pts, hu1, fun g => ?_, by show 0 ≤ tget o.tg f ∧ tget o.tg f ≤ ((i + 1 : Nat) : Int) * 2952069120; omega, hlow', fun g => ?_⟩, rfl, hmin, hlow, 0, by omega, hg.1, .inl ⟨rfl, hb⟩, by show tget o.tg f = _; omega, fun g => ?_⟩
    · have := h.val g
      dsimp only; rw [hTg]; push_cast
      split <;> omega
    · have := h.up g
      dsimp only; rw [hTg]
      split <;> omega
    · have := h.val g
      dsimp only; rw [hTg]
      split <;> omega
  · rw [if_neg hb]
    refine ⟨rfl, ⟨h.pts, hu1.lower _, fun g => ?_, by show 0 ≤ tget o.tg f - tget o.tg f ∧ tget o.tg f - tget o.tg f ≤ ((i + 1 : Nat) : Int) * 2952069120; omega, fun p hp => ?_, fun g => ?_⟩, rfl, hmin, hlow, tget o.tg f, hg.1, by omega, .inr rfl, rfl, fun g => ?_⟩
    · have := h.val g
      dsimp only; rw [tget_lower _ hg.1, hTg]; push_cast
      split <;> omega
    · have := hlow' p hp
      dsimp only; rw [tget_lower _ hg.1]; omega
    · have := h.up g
      dsimp only; rw [tget_lower _ hg.1, hTg]
      split <;> omega
    · dsimp only; rw [tget_lower _ hg.1, hTg]
theorem tget_mdel {m : List (Int × Int)} (hu : Uniq m) (f g : Int) : tget (mdel m f) g = if g = f then 0 else tget m g := by
  unfold tget
  rw [mdel_filtK f hu]
  induction m with
  | nil => simp [mget]
  | cons x m ih =>
    unfold Uniq at hu
    rw [List.map_cons, List.nodup_cons] at hu
    have ih := ih hu.2
    obtain ⟨k, v⟩ := x
    by_cases hk : k = f
    · subst hk
      rw [List.filter_cons_of_neg (by simp), ih]
      by_cases hg : g = k
      · rw [if_pos hg, if_pos hg]
      · rw [if_neg hg, if_neg hg]
        show _ = (if g = k then some v else mget m g).getD 0
        rw [if_neg hg]
    · rw [List.filter_cons_of_pos (by simpa using hk)]
      show (if g = k then some v else mget _ g).getD 0 = if g = f then 0 else (if g = k then some v else mget m g).getD 0
      by_cases hg : g = k
      · rw [if_pos hg, if_pos hg, if_neg (by omega)]
      · rw [if_neg hg, if_neg hg, ih]
theorem OInv.forget {i : Nat} {o : Ord} (h : OInv i o) (f : Int) : OInv i ⟨mdel o.el f, mdel o.tg f, o.tm⟩ := by
  have ht := h.tm
  have hm : mdel o.el f = o.el.filter fun x => !(x.1 == f) := mdel_filtK f h.pts.uniq
  refine ⟨?_, h.uniq.mdel f, fun g => ?_, h.tm, fun p hp => ?_, fun g => ?_⟩
  · dsimp only; rw [hm]; exact h.pts.sub List.filter_sublist
  · have := h.val g
    dsimp only; rw [tget_mdel h.uniq]
    split <;> omega
  · dsimp only at hp ⊢
    rw [hm] at hp
    obtain ⟨h1, h2⟩ := List.mem_filter.1 hp
    rw [tget_mdel h.uniq, if_neg (by simpa using h2)]
    exact h.low p h1
  · have := h.up g
    dsimp only; rw [tget_mdel h.uniq]
    split <;> omega

/-! ### Picking heads -/
theorem snd_zip_sub {α β : Type} : ∀ (l : List α) (m : List β), ((l.zip m).map (·.2)).Sublist m
  | [], m => by simp
  | _ :: _, [] => by simp
  | _ :: l, b :: m => by simpa using snd_zip_sub l m
theorem pickH_sub (D : List Tg) (p : Head → Bool) (H : List Head) : (pickH D p H).Sublist (ptsOf D) := by
  unfold pickH
  exact (List.filter_sublist.map _).trans (snd_zip_sub _ _)
theorem ptsOf_f (D : List Tg) : (ptsOf D).map (·.1) = D.map (·.f) := by unfold ptsOf; rw [List.map_map]; rfl

/-- What the scheduler keeps: tags up to i packets, m slots, ledger bound N. -/
structure CqInv (i m N : Nat) (s : Cq) : Prop where
  t : TInv i s.R
  aw : 0 ≤ s.R.aw ∧ s.R.aw + s.R.tm ≤ m * 2952069120
  pts : ptsOf s.D = ptsOf s.R.L
  lg : LgOk N s.D
  sum : sumS s.D = 0
  c : OInv i s.C
  x : OInv i s.X
  nu : Uniq s.n
  nv : ∀ y ∈ s.n, 0 ≤ y.2.1 ∧ y.2.1 ≤ m * 4096 ∧ 0 ≤ y.2.2 ∧ y.2.2 ≤ m * 4096

section
variable {i m N : Nat} {s : Cq}
theorem CqInv.fl (h : CqInv i m N s) : s.D.map (·.f) = s.R.L.map (·.f) := by
  rw [← ptsOf_f, ← ptsOf_f, h.pts]
theorem CqInv.len (h : CqInv i m N s) : s.D.length = s.R.L.length := by
  have := congrArg List.length h.fl
  simpa using this
theorem CqInv.dpt (h : CqInv i m N s) : PtOk (ptsOf s.D) := ptsOf_ok h.lg.ok
theorem CqInv.cnt (h : CqInv i m N s) (f : Int) : 0 ≤ (cntO s.n f).1 ∧ (cntO s.n f).1 ≤ m * 4096 ∧ 0 ≤ (cntO s.n f).2 ∧ (cntO s.n f).2 ≤ m * 4096 := by
  unfold cntO
  cases hm : mget s.n f with
  | none => show 0 ≤ (0 : Int) ∧ (0 : Int) ≤ _ ∧ 0 ≤ (0 : Int) ∧ (0 : Int) ≤ _; omega
  | some v => exact h.nv _ (mem_of_mget hm)
theorem fget_of_f {L : List Tg} {k : Int} (h : k ∈ L.map (·.f)) : ∃ t, fget L k = some t := by
  cases hf : fget L k with
  | some t => exact ⟨t, rfl⟩
  | none =>
    obtain ⟨t, ht, he⟩ := List.mem_map.1 h
    exact absurd he (fget_none.1 hf t ht)
def cq0 : Cq := ⟨⟨[], fun _ => 0, 0, 0⟩, [], ⟨[], [], 0⟩, ⟨[], [], 0⟩, []⟩
theorem CqInv.start : CqInv 0 0 0 cq0 :=
  ⟨TInv.start, by simp [cq0], rfl, LgOk.start, rfl, OInv.start, OInv.start, by simp [Uniq, cq0], by simp [cq0]⟩
/-- More slots, greater bounds. -/
theorem CqInv.le {j k M : Nat} (h : CqInv i m N s) (hj : i ≤ j) (hk : m ≤ k) (hM : N ≤ M) : CqInv j k M s := by
  have hij : (i : Int) ≤ j := by omega
  have hmk : (m : Int) ≤ k := by omega
  have h2 := h.aw
  refine ⟨?_, by omega, h.pts, h.lg.le hM, h.sum, h.c.le hj, h.x.le hj, h.nu, fun y hy => by have := h.nv y hy; omega⟩
  have h3 := h.t.tm
  exact ⟨h.t.ok, by omega, h.t.act, h.t.old⟩
/-- The times are small. -/
structure CqLow (s : Cq) : Prop where
  r : s.R.tm ≤ 2952069120
  c : s.C.tm ≤ 2952069120
  x : s.X.tm ≤ 2952069120
theorem CqInv.down (h : CqInv i m N s) (hl : CqLow s) : CqInv 2 m N s :=
  ⟨⟨h.t.ok, by have := hl.r; push_cast; omega, h.t.act, h.t.old⟩, h.aw, h.pts, h.lg, h.sum, h.c.down hl.c, h.x.down hl.x, h.nu, h.nv⟩
end

/-! ### A slot -/
/-- The heads fit: what that says. -/
theorem fits_facts {L : List Tg} {H : List Head} (h : fitsH L H = true) : H.map (·.f) = L.map (·.f) ∧ ∀ x ∈ H, 1 ≤ x.len ∧ x.len ≤ 4096 := by
  unfold fitsH at h
  rw [Bool.and_eq_true, decide_eq_true_eq, List.all_eq_true] at h
  exact ⟨h.1, fun x hx => by simpa using h.2 x hx⟩
theorem headOf_mem {H : List Head} {f : Int} (h : f ∈ H.map (·.f)) : headOf H f ∈ H ∧ (headOf H f).f = f := by
  unfold headOf
  cases hf : H.find? (fun h => h.f == f) with
  | none =>
    obtain ⟨x, hx, he⟩ := List.mem_map.1 h
    have := List.find?_eq_none.1 hf x hx
    simp [he] at this
  | some x => exact ⟨List.mem_of_find?_eq_some hf, by simpa using List.find?_some hf⟩
theorem selT_mem {L : List Tg} (h : L ≠ []) : selT L = ((lst L).f, 0) ∧ (lst L).f ∈ L.map (·.f) := by
  unfold selT
  rw [if_neg h]
  exact ⟨rfl, List.mem_map.2 ⟨_, lst_mem h, rfl⟩⟩
/-- Every choice but the idle one charges the selected flow and serves an active one; the ways by the orders serve one that is eligible there. -/
theorem choose_facts {i m N : Nat} {s : Cq} (h : CqInv i m N s) (hne : s.R.L ≠ []) (num den : Int) {H : List Head} (_ : H.map (·.f) = s.R.L.map (·.f)) {C X : Ord} (hC : OInv i C) (hX : OInv i X)
    (hCe : C.el = lagH s.D H) (hXe : X.el = allH s.D H) :
    chooseC num den { s with C := C, X := X } H (!(allH s.D H).isEmpty) = chIdle ∨
    ∃ j why, chooseC num den { s with C := C, X := X } H (!(allH s.D H).isEmpty) = ⟨(lst s.R.L).f, j, why⟩ ∧ j ∈ s.D.map (·.f) ∧ 0 ≤ j ∧
      (why = 1 ∧ j = (lst s.R.L).f ∨ (why = 2 ∨ why = 3) ∧ j = leastF C.el C.tg ∨ why = 4 ∧ j = leastF X.el X.tg) ∧ 0 ≤ (lst s.R.L).f := by
  obtain ⟨hs, hk⟩ := selT_mem hne
  have hk0 : 0 ≤ (lst s.R.L).f := (h.t.ok.ok.rng _ (lst_mem hne)).1
  have hkD : (lst s.R.L).f ∈ s.D.map (·.f) := by rw [h.fl]; exact hk
  have hsub : ∀ (p : Head → Bool) (j : Int), j ∈ (pickH s.D p H).map (·.1) → j ∈ s.D.map (·.f) ∧ 0 ≤ j := fun p j hj => by
    obtain ⟨y, hy, rfl⟩ := List.mem_map.1 hj
    have hy' := (pickH_sub s.D p H).subset hy
    have := h.dpt.rng y hy'
    exact ⟨by rw [← ptsOf_f]; exact List.mem_map.2 ⟨y, hy', rfl⟩, this.1⟩
  unfold chooseC
  dsimp only
  rw [hs]
  dsimp only
  split
  · exact .inr ⟨_, _, rfl, hkD, hk0, .inl ⟨rfl, rfl⟩, hk0⟩
  · split
    · rename_i hl
      have hm := hC.least hl
      have hm' := hm
      rw [hCe] at hm'
      have := hsub _ _ hm'
      rw [← hCe] at this
      refine .inr ⟨_, _, rfl, this.1, hl, .inr (.inl ⟨?_, rfl⟩), hk0⟩
      split
      · exact .inl rfl
      · exact .inr rfl
    · split
      · exact .inr ⟨_, _, rfl, hkD, hk0, .inl ⟨rfl, rfl⟩, hk0⟩
      · split
        · rename_i hso
          have hl : 0 ≤ leastF X.el X.tg := by
            have : ¬ (leastF X.el X.tg < 0) := fun hlt => by
              have := hX.least_nil.1 hlt
              rw [hXe] at this
              rw [this] at hso
              simp at hso
            omega
          rw [if_pos hl]
          have hm := hX.least hl
          have hm' := hm
          rw [hXe] at hm'
          have := hsub _ _ hm'
          rw [← hXe] at this
          exact .inr ⟨_, _, rfl, this.1, hl, .inr (.inr ⟨rfl, rfl⟩), hk0⟩
        · exact .inl rfl
theorem nMove_fw {L : List Tg} (h : NOk L) (c s n : Int) : ptsOf (nMove L c s n).2 = ptsOf L := by
  have hs : ∀ {M : List Tg} {x a : Tg}, NOk M → fget M x.f = some a → x.w = a.w → ptsOf (setT x M) = ptsOf M := fun {M x a} hM hf hw => by
    unfold ptsOf setT
    rw [List.map_map]
    refine List.map_congr_left fun t ht => ?_
    show ((if t.f = x.f then x else t).f, (if t.f = x.f then x else t).w) = (t.f, t.w)
    split
    · rename_i e
      have := fget_memN hM ht
      rw [e, hf] at this
      cases this
      rw [hw, e]
    · rfl
  unfold nMove
  cases hc : fget L c with
  | none => rfl
  | some a =>
    cases hd : fget L s with
    | none => rfl
    | some d =>
      dsimp only
      obtain ⟨ma, rfl⟩ := fget_some hc
      obtain ⟨md, rfl⟩ := fget_some hd
      split
      · rfl
      · split
        · rfl
        · split
          · rfl
          · rename_i hne _
            dsimp only
            have hr := h.rng a ma
            have h1 : NOk (setT ⟨a.f, a.w, a.s + n⟩ L) := h.set (x := ⟨a.f, a.w, a.s + n⟩) ⟨hr.1, hr.2.1, hr.2.2.1, hr.2.2.2⟩
            have h2 : fget (setT ⟨a.f, a.w, a.s + n⟩ L) d.f = some d := by
              rw [← fget_memN h1 (mem_setT_of md (x := ⟨a.f, a.w, a.s + n⟩) (Ne.symm hne))]
            rw [hs (x := ⟨d.f, d.w, d.s - n⟩) h1 h2 rfl, hs (x := ⟨a.f, a.w, a.s + n⟩) h hc rfl]
theorem nMove_zero {N : Nat} {L : List Tg} (h : LgOk N L) (hN : N ≤ 1000000) {c s n : Int} (hc : c ∈ L.map (·.f)) (hs : s ∈ L.map (·.f)) (h1 : 1 ≤ n) (h2 : n ≤ 4096) : (nMove L c s n).1 = 0 := by
  obtain ⟨a, ha⟩ := fget_of_f hc
  obtain ⟨d, hd⟩ := fget_of_f hs
  have b1 := h.lag (fget_some ha).1
  have b2 := h.lag (fget_some hd).1
  have hn : (N : Int) ≤ 1000000 := by omega
  rw [nMove_some ha hd, if_neg (by omega)]
  split
  · rfl
  · rw [if_neg (by omega)]

def nextC (num den reb : Int) (s : Cq) (C X : Ord) (c : Chc) (len : Int) : Cq :=
  ⟨(chargeR reb s.R c.ch len).2, (nMove s.D c.ch c.sv len).2, (servC reb C X c len).2.1, (servC reb C X c len).2.2, resetC (nMove s.D c.ch c.sv len).2 (if countC num den s c = true then bumpC s.n c len else s.n)⟩
theorem Uniq.filt {α : Type} {m : List (Int × α)} (h : Uniq m) (p : Int × α → Bool) : Uniq (m.filter p) := by
  unfold Uniq at *
  exact h.sublist (List.filter_sublist.map _)

/-- What a slot with heads that fit does. -/
theorem CqInv.step {i m N : Nat} {s : Cq} (h : CqInv i m N s) (hi : i ≤ 299) (hN : N ≤ 1000000) (num den reb : Int) {H : List Head} (hf : fitsH s.R.L H = true) (hne : H ≠ []) {C X : Ord} {c : Chc}
    (hC : eligO s.C (lagH s.D H) = C) (hX : eligO s.X (allH s.D H) = X) (hc : chooseC num den { s with C := C, X := X } H (!(allH s.D H).isEmpty) = c) :
    OInv i C ∧ OInv i X ∧ C.el = lagH s.D H ∧ X.el = allH s.D H ∧
    (c = chIdle ∧ stepC num den reb s H = (chIdle, 0, { s with C := C, X := X }) ∧ CqInv i m N { s with C := C, X := X } ∨
      ∃ j why len, c = ⟨(lst s.R.L).f, j, why⟩ ∧ 0 ≤ j ∧ (headOf H j).len = len ∧ (∃ x ∈ H, x.f = j) ∧ 1 ≤ len ∧ len ≤ 4096 ∧ (why = 1 ∧ j = (lst s.R.L).f ∨ (why = 2 ∨ why = 3) ∧ j = leastF C.el C.tg ∨ why = 4 ∧ j = leastF X.el X.tg) ∧ stepC num den reb s H = (c, 0, nextC num den reb s C X c len) ∧
        (chargeR reb s.R (lst s.R.L).f len).1 = 0 ∧ (servC reb C X c len).1 = 0 ∧ (nMove s.D (lst s.R.L).f j len).1 = 0 ∧ CqInv (i + 1) (m + 1) (N + 1) (nextC num den reb s C X c len) ∧ (reb ≤ 2952069120 → CqLow s → CqLow (nextC num den reb s C X c len))) := by
  obtain ⟨f1, f2⟩ := fits_facts hf
  have hL : s.R.L ≠ [] := fun e => by rw [e] at f1; simp at f1; exact hne f1
  have hl : ∀ p, PtOk (pickH s.D p H) := fun p => h.dpt.sub (pickH_sub _ _ _)
  have oC : OInv i C := hC ▸ h.c.elig (hl _)
  have oX : OInv i X := hX ▸ h.x.elig (hl _)
  have eC : C.el = lagH s.D H := hC ▸ h.c.elig_el (hl _)
  have eX : X.el = allH s.D H := hX ▸ h.x.elig_el (hl _)
  refine ⟨oC, oX, eC, eX, ?_⟩
  have hch := choose_facts h hL num den f1 oC oX eC eX
  rw [hc] at hch
  have hst : stepC num den reb s H = if c = chIdle then (c, 0, { s with C := C, X := X }) else
      if (chargeR reb s.R c.ch (headOf H c.sv).len).1 ≠ 0 then (ch0, (chargeR reb s.R c.ch (headOf H c.sv).len).1, s) else
      if (servC reb C X c (headOf H c.sv).len).1 ≠ 0 then (ch0, (servC reb C X c (headOf H c.sv).len).1, s) else
      if (nMove s.D c.ch c.sv (headOf H c.sv).len).1 ≠ 0 then (ch0, (nMove s.D c.ch c.sv (headOf H c.sv).len).1, s) else (c, 0, nextC num den reb s C X c (headOf H c.sv).len) := by
    unfold stepC
    rw [if_neg (by rw [hf]; simp), if_neg hne]
    dsimp only
    rw [hC, hX, hc]
    rfl
  rcases hch with he | ⟨j, why, he, hj, hj0, hw, hk0⟩
  · left
    rw [he, if_pos rfl] at hst
    exact ⟨he, hst, ⟨h.t, h.aw, h.pts, h.lg, h.sum, oC, oX, h.nu, h.nv⟩⟩
  · right
    have hjH : j ∈ H.map (·.f) := by rw [f1, ← h.fl]; exact hj
    obtain ⟨m1, m2⟩ := headOf_mem hjH
    have hlen := f2 _ m1
    refine ⟨j, why, (headOf H j).len, he, hj0, rfl, ⟨_, m1, m2⟩, hlen.1, hlen.2, hw, ?_⟩
    obtain ⟨len, hle⟩ : ∃ len, (headOf H j).len = len := ⟨_, rfl⟩
    rw [hle] at hlen ⊢
    have hkD : (lst s.R.L).f ∈ s.D.map (·.f) := by rw [h.fl]; exact List.mem_map.2 ⟨_, lst_mem hL, rfl⟩
    obtain ⟨q1, q2⟩ := h.t.charge (by omega) hL hlen.1 hlen.2 reb
    have q0 : (chargeR reb s.R (lst s.R.L).f len).1 = 0 := by rw [q1]
    have qn := nMove_zero h.lg hN hkD hj hlen.1 hlen.2
    have qs : (servC reb C X c len).1 = 0 ∧ OInv (i + 1) (servC reb C X c len).2.1 ∧ OInv (i + 1) (servC reb C X c len).2.2 ∧
        (reb ≤ 2952069120 → C.tm ≤ 2952069120 → X.tm ≤ 2952069120 → (servC reb C X c len).2.1.tm ≤ 2952069120 ∧ (servC reb C X c len).2.2.tm ≤ 2952069120) := by
      rw [he]
      unfold servC
      dsimp only
      rcases hw with ⟨hw, _⟩ | ⟨hw, hm⟩ | ⟨hw, hm⟩
      · rw [if_neg (by omega), if_neg (by omega)]
        exact ⟨rfl, oC.le (Nat.le_succ i), oX.le (Nat.le_succ i), fun _ h1 h2 => ⟨h1, h2⟩⟩
      · rw [if_pos hw]
        obtain ⟨wt, _, _, _, e0, e1, _, _, _, by_, b0, b1, b2, e2, _⟩ := oC.serv (by omega) reb hm hj0 hlen.1 hlen.2
        exact ⟨e0, e1, oX.le (Nat.le_succ i), fun h1 h2 h3 => ⟨by rw [e2]; omega, h3⟩⟩
      · rw [if_neg (by omega), if_pos hw]
        obtain ⟨wt, _, _, _, e0, e1, _, _, _, by_, b0, b1, b2, e2, _⟩ := oX.serv (by omega) reb hm hj0 hlen.1 hlen.2
        exact ⟨e0, oC.le (Nat.le_succ i), e1, fun h1 h2 h3 => ⟨h2, by rw [e2]; omega⟩⟩
    have hcne : c ≠ chIdle := by
      rw [he]
      intro e
      have := congrArg Chc.sv e
      change j = -1 at this
      omega
    have hsv : c.sv = j := by rw [he]
    have hcc : c.ch = (lst s.R.L).f := by rw [he]
    refine ⟨?_, q0, qs.1, qn, ?_, ?_⟩
    · have hlen' : (headOf H c.sv).len = len := by rw [hsv]; exact hle
      rw [hst, if_neg hcne, hlen', hcc, hsv, if_neg (by rw [q0]; simp), if_neg (by rw [qs.1]; simp), if_neg (by rw [qn]; simp)]
    · unfold nextC
      rw [hcc, hsv]
      have hnv : ∀ y ∈ s.n, 0 ≤ y.2.1 ∧ y.2.1 ≤ ((m + 1 : Nat) : Int) * 4096 ∧ 0 ≤ y.2.2 ∧ y.2.2 ≤ ((m + 1 : Nat) : Int) * 4096 := fun y hy => by
        have := h.nv y hy; push_cast; omega
      refine ⟨by rw [q1]; exact q2, ?_, ?_, (nMove_ok h.lg _ _ _).1, (nMove_ok h.lg _ _ _).2.trans h.sum, qs.2.1, qs.2.2.1, ?_, ?_⟩
      · rw [q1]
        obtain ⟨_, hT, hmx⟩ := h.t.ch (by omega) hL hlen.1 hlen.2
        have haw := h.aw
        have hr := h.t.ok.ok.rng _ (lst_mem hL)
        have hact := h.t.act _ (lst_mem hL)
        have hbr := byS_rng hT.ok (setT_ne hL)
        unfold rebS
        split
        · show 0 ≤ s.R.aw ∧ s.R.aw + max s.R.tm (lst s.R.L).s ≤ _
          push_cast; omega
        · show 0 ≤ s.R.aw + byS _ ∧ s.R.aw + byS _ + (max s.R.tm (lst s.R.L).s - byS _) ≤ _
          push_cast; omega
      · dsimp only
        rw [nMove_fw h.lg.ok, h.pts, q1]
        dsimp only
        have e1 : ptsOf (chS s.R (lst s.R.L) ((lst s.R.L).s + cst len (lst s.R.L).w)).L = ptsOf s.R.L := by
          unfold chS setT ptsOf
          dsimp only
          rw [List.map_map]
          refine List.map_congr_left fun t ht => ?_
          show ((if t.f = (lst s.R.L).f then (⟨(lst s.R.L).f, (lst s.R.L).w, (lst s.R.L).s + cst len (lst s.R.L).w⟩ : Tg) else t).f, (if t.f = (lst s.R.L).f then (⟨(lst s.R.L).f, (lst s.R.L).w, (lst s.R.L).s + cst len (lst s.R.L).w⟩ : Tg) else t).w) = (t.f, t.w)
          split
          · rename_i e
            rw [h.t.ok.ok.inj ht (lst_mem hL) e]
          · rfl
        rw [← e1]
        unfold rebS
        split
        · rfl
        · unfold subS ptsOf
          dsimp only
          rw [List.map_map]; rfl
      · dsimp only
        unfold resetC
        split
        · exact (h.nu.mput _ _).filt _
        · exact h.nu.filt _
      · dsimp only
        unfold resetC
        intro y hy
        have hy := (List.mem_filter.1 hy).1
        split at hy
        · unfold bumpC at hy
          rcases mput_mem hy with hy | rfl
          · exact hnv y hy
          · have := h.cnt c.ch
            dsimp only
            push_cast
            split <;> omega
        · exact hnv y hy
    · intro hr hl
      have e3 : C.tm = s.C.tm := by rw [← hC]; rfl
      have e4 : X.tm = s.X.tm := by rw [← hX]; rfl
      have := qs.2.2.2 hr (by rw [e3]; exact hl.c) (by rw [e4]; exact hl.x)
      unfold nextC
      refine ⟨?_, this.1, this.2⟩
      dsimp only
      rw [hcc, q1]
      dsimp only
      obtain ⟨_, hT, hmx⟩ := h.t.ch (by omega) hL hlen.1 hlen.2
      have hby := hT.by_ (setT_ne hL)
      unfold rebS
      rw [hby]
      split
      · omega
      · unfold subS; dsimp only; omega
end Go.Proofs.Ytkmlkpfabkhleaa

/- A slot of cifq, walked: heads that do not fit, no heads. -/
namespace Go.Proofs.Ytkmlkpfabkhleaa
open Go.RowKit
open SP
section
variable {w w' : World} {R : List SP} {b rp lp cp xp nb N : Nat} {num den reb : Int} {S : St} {Sp : SP}

theorem qcalm_set {x : Addr} {v : Value} (h : Calm w w') : Calm w (w'.setCell x v) := ⟨h.os, h.tape, h.output⟩
theorem qcalm_alloc {x : Obj} (h : Calm w w') : Calm w (w'.alloc x) := ⟨h.os, h.tape, h.output⟩
theorem qcalm_drew (h : Calm w w') : Calm w w'.drew := ⟨h.os, h.tape, h.output⟩
/-- A scheduler, all of it. -/
def CqF (b : Nat) (num den reb : Int) (N : Nat) (s : Cq) : SP := ex fun (p : (Nat × Nat × Nat) × (Nat × Nat)) =>
  st [CqC b num den p.1.1 p.1.2.1 p.1.2.2 p.2.1 p.2.2, SfqR p.1.1 reb s.R, LagR p.1.2.1 N s.D, mpI cntV p.2.2 s.n, OrdR p.1.2.2 reb s.C, OrdR p.2.1 reb s.X]
theorem CqF.iff {s : Cq} : Own w (CqF b num den reb N s :: R) ↔ ∃ rp lp cp xp nb, Own w (CqC b num den rp lp cp xp nb :: SfqR rp reb s.R :: LagR lp N s.D :: mpI cntV nb s.n :: OrdR cp reb s.C :: OrdR xp reb s.X :: R) := by
  constructor
  · intro o
    obtain ⟨⟨⟨rp, lp, cp⟩, xp, nb⟩, h⟩ := Own.ex.1 o
    exact ⟨rp, lp, cp, xp, nb, Own.st.1 h⟩
  · rintro ⟨rp, lp, cp, xp, nb, h⟩
    exact Own.ex.2 ⟨((rp, lp, cp), (xp, nb)), Own.st.2 h⟩

theorem chRow2 {fn : Func} (h : fn.results = #[.cell 4 33, .tmp 5]) {tmps : Array Value} {p : Nat} {x y z : Int} {e : Int} (hp : tmps.getD 4 undef = .pointer (some ⟨p, 0, none⟩)) (he : tmps.getD 5 undef = .int .i64 e)
    (o : Own w (cel p 33 [.int .i64 x, .int .i64 y, .int .i64 z] :: R)) : (results fn tmps).run Try.prog w = .ok (.tuple #[chV ⟨x, y, z⟩, .int .i64 e]) w := by
  have c0 := o.cell 0
  have c1 := o.cell 1
  have c2 := o.cell 2
  rw [results_cell_tmp h, hp, he]
  unfold chV
  go_simp

set_option maxHeartbeats 3200000 in
set_option maxRecDepth 100000 in
theorem step_unfit {a : Option Addr} {n c : Nat} {H : List Head} (h1 : HeadsAt Sp a H) (hn : n = H.length) (hl : n ≤ 33) (hf : fitsH S.L H = false) (o : Own w (CqC b num den rp lp cp xp nb :: SfqR rp reb S :: Sp :: R)) :
    Calls Try.prog 12 #[.pointer (some ⟨b, 0, none⟩), .slice a n c] w (Ret (.tuple #[chV ch0, .int .i64 1]) (CqC b num den rp lp cp xp nb :: SfqR rp reb S :: Sp :: R) w) := by
  have oA := (o.alloc (.cells #[.int .i64 0, .int .i64 0, .int .i64 0] 33)).alloc (.cells #[.int .i64 (-1), .int .i64 (-1), .int .i64 6] 33)
  simp only [World.size_alloc] at oA
  have hc := fits_spec (c := c) h1 hn (by omega) (oA.re [2, 3, 4, 0, 1])
  rw [hf] at hc
  clear hf hn
  go_enter Try.func12, Try.ntmps12
  go_wp2_with fail
  refine hc.mono ?_
  rintro e1 w1 ⟨rfl, o1, k1⟩
  clear hc
  have z0 := Own.cell (T := 33) (vs := [.int .i64 0, .int .i64 0, .int .i64 0]) (o1.up 4) 0
  have z1 := Own.cell (T := 33) (vs := [.int .i64 0, .int .i64 0, .int .i64 0]) (o1.up 4) 1
  have z2 := Own.cell (T := 33) (vs := [.int .i64 0, .int .i64 0, .int .i64 0]) (o1.up 4) 2
  have zf := Own.frozen (T := 33) (vs := [.int .i64 0, .int .i64 0, .int .i64 0]) (o1.up 4)
  have zl := Own.celLt (T := 33) (vs := [.int .i64 0, .int .i64 0, .int .i64 0]) (o1.up 4)
  have o5 := Own.setCell (T := 33) (vs := [.int .i64 0, .int .i64 0, .int .i64 0]) (o1.up 4) 0 (.int .i64 0)
  have o6 := Own.setCell (T := 33) (vs := [.int .i64 0, .int .i64 0, .int .i64 0]) o5 1 (.int .i64 0)
  have o7 := Own.setCell (T := 33) (vs := [.int .i64 0, .int .i64 0, .int .i64 0]) o6 2 (.int .i64 0)
  go_wp2
  refine bodyPost_ret (v := .tuple #[chV ⟨0, 0, 0⟩, .int .i64 1]) ?_ rfl ?_
  · exact chRow2 (p := w.heap.size) rfl rfl rfl o7
  · exact ⟨rfl, (o7.drop).re [3] 1, ⟨k1.os, k1.tape, k1.output⟩⟩
set_option maxHeartbeats 3200000 in
set_option maxRecDepth 100000 in
theorem step_empty {a : Option Addr} {c : Nat} (hf : S.L = []) (o : Own w (CqC b num den rp lp cp xp nb :: SfqR rp reb S :: Sp :: R)) :
    Calls Try.prog 12 #[.pointer (some ⟨b, 0, none⟩), .slice a 0 c] w (Ret (.tuple #[chV ch0, .int .i64 5]) (CqC b num den rp lp cp xp nb :: SfqR rp reb S :: Sp :: R) w) := by
  have oA := (o.alloc (.cells #[.int .i64 0, .int .i64 0, .int .i64 0] 33)).alloc (.cells #[.int .i64 (-1), .int .i64 (-1), .int .i64 6] 33)
  simp only [World.size_alloc] at oA
  have hc := fits_spec (a := a) (c := c) (n := 0) (H := []) (fun w R _ i h e => by simp at e) rfl (by omega) (oA.re [2, 3, 4, 0, 1])
  have hfit : fitsH S.L [] = true := by rw [hf]; rfl
  rw [hfit] at hc
  clear hf hfit
  go_enter Try.func12, Try.ntmps12
  go_wp2_with fail
  refine hc.mono ?_
  rintro e1 w1 ⟨rfl, o1, k1⟩
  clear hc
  have z0 := Own.cell (T := 33) (vs := [.int .i64 0, .int .i64 0, .int .i64 0]) (o1.up 4) 0
  have z1 := Own.cell (T := 33) (vs := [.int .i64 0, .int .i64 0, .int .i64 0]) (o1.up 4) 1
  have z2 := Own.cell (T := 33) (vs := [.int .i64 0, .int .i64 0, .int .i64 0]) (o1.up 4) 2
  have zf := Own.frozen (T := 33) (vs := [.int .i64 0, .int .i64 0, .int .i64 0]) (o1.up 4)
  have zl := Own.celLt (T := 33) (vs := [.int .i64 0, .int .i64 0, .int .i64 0]) (o1.up 4)
  have o5 := Own.setCell (T := 33) (vs := [.int .i64 0, .int .i64 0, .int .i64 0]) (o1.up 4) 0 (.int .i64 0)
  have o6 := Own.setCell (T := 33) (vs := [.int .i64 0, .int .i64 0, .int .i64 0]) o5 1 (.int .i64 0)
  have o7 := Own.setCell (T := 33) (vs := [.int .i64 0, .int .i64 0, .int .i64 0]) o6 2 (.int .i64 0)
  go_wp2
  refine bodyPost_ret (v := .tuple #[chV ⟨0, 0, 0⟩, .int .i64 5]) ?_ rfl ?_
  · exact chRow2 (p := w.heap.size) rfl rfl rfl o7
  · exact ⟨rfl, (o7.drop).re [3] 1, ⟨k1.os, k1.tape, k1.output⟩⟩
end
end Go.Proofs.Ytkmlkpfabkhleaa

/- Drawn regions whose operations all give values that can be named beforehand. -/
namespace Go.Proofs.Ytkmlkpfabkhleaa
open Go.RowKit
open SP
/-- What has been done gives these values. -/
def Vals (f : Nat → Value) (L : Nat → Bool) (v : Nat → Value) : Prop := ∀ i, L i = true → v i = f i
theorem Vals.no {f : Nat → Value} {v : Nat → Value} : Vals f (fun _ => false) v := fun _ h => (Bool.false_ne_true h).elim
theorem Vals.put {f : Nat → Value} {L : Nat → Bool} {v : Nat → Value} (h : Vals f L v) (i : Nat) {x : Value} (hx : x = f i) : Vals f (dIns L i) (dUpd v i x) := fun j hj => by
  unfold dUpd
  split
  · rename_i e; rw [e]; exact hx
  · rename_i e
    unfold dIns at hj
    rw [if_neg e] at hj
    exact h j hj
/-- The same, where of some nothing is said. -/
def OVals (f : Nat → Option Value) (L : Nat → Bool) (v : Nat → Value) : Prop := ∀ i x, f i = some x → L i = true → v i = x
theorem OVals.no {f : Nat → Option Value} {v : Nat → Value} : OVals f (fun _ => false) v := fun _ _ _ h => (Bool.false_ne_true h).elim
theorem OVals.put {f : Nat → Option Value} {L : Nat → Bool} {v : Nat → Value} (h : OVals f L v) (i : Nat) {x : Value} (hx : ∀ y, f i = some y → x = y) : OVals f (dIns L i) (dUpd v i x) := fun j y hy hj => by
  unfold dUpd
  split
  · rename_i e; subst e; exact hx y hy
  · rename_i e
    unfold dIns at hj
    rw [if_neg e] at hj
    exact h j y hy hj
theorem some_eq {x y : Value} (h : some x = some y) : x = y := Option.some.inj h
end Go.Proofs.Ytkmlkpfabkhleaa

/- Drawn regions with guards that are decided beforehand. -/
namespace Go.Proofs.Ytkmlkpfabkhleaa
open Go.RowKit
open SP
section
variable {P : Program} {ops : Array Oper} {Q : Exit → Act → World → Prop}
theorem wanted_at {A0 a : Act} {L : Nat → Bool} {v : Nat → Value} {o : Oper} {j : Nat} {want b : Bool} {t : Nat} (hA : Agree A0 ops L v a) (hg : o.guard = some (j, want)) (ht : (ops[j]?).bind (·.dst) = some t) (hl : L j = true) (hv : v j = .bool b) :
    Region.wanted o (yielded ops a.tmps) = (b == want) := by
  have h := hA.get j hl ht
  rw [hv] at h
  unfold Region.wanted
  rw [hg]
  show (yielded ops a.tmps j == some want) = _
  unfold yielded
  rw [ht]
  simp only [Option.bind_some]
  cases hx : a.tmps[t]? with
  | none => rw [hx] at h; cases h
  | some x =>
    rw [hx] at h
    have : x = .bool b := h
    subst this
    simp
theorem DrawStep.run {A0 : Act} {Inv : (Nat → Bool) → (Nat → Value) → World → Prop} {i : Nat} {o : Oper} {j : Nat} {want : Bool} {t : Nat} (hg : o.guard = some (j, want)) (ht : (ops[j]?).bind (·.dst) = some t)
    (hj : (o.after.any fun e => decide (e.on = j) && Region.binds .any e) = true) (hv : ∀ L v w, Inv L v w → L j = true → v j = .bool want)
    (h : ∀ (L : Nat → Bool) (v : Nat → Value) (a : Act) (w : World), L i = false → (∀ e ∈ o.after, Region.binds .any e = true → L e.on = true) → Agree A0 ops L v a → Inv L v w →
      ∀ K' : Act → World → Prop, Shut (∀ x w', Inv (dIns L i) (dUpd v i x) w' → K' (a.put o.dst x) w') → Oper.wp P o a w K' Q) : DrawStep P ops Q A0 Inv i o := by
  intro L v a w h1 h2 h3 h4 K' hK
  rw [Array.any_eq_true'] at hj
  obtain ⟨e, he, hb⟩ := hj
  rw [Bool.and_eq_true, decide_eq_true_eq] at hb
  have hl : L j = true := hb.1 ▸ h2 e he hb.2
  rw [if_pos (by rw [wanted_at h3 hg ht hl (hv L v w h4 hl)]; simp)]
  exact h L v a w h1 h2 h3 h4 K' hK
theorem DrawStep.skip {A0 : Act} {Inv : (Nat → Bool) → (Nat → Value) → World → Prop} {i : Nat} {o : Oper} {j : Nat} {want : Bool} {t : Nat} (hg : o.guard = some (j, want)) (ht : (ops[j]?).bind (·.dst) = some t)
    (hj : (o.after.any fun e => decide (e.on = j) && Region.binds .any e) = true) (hv : ∀ L v w, Inv L v w → L j = true → v j = .bool (!want))
    (hi : ∀ L v w, L i = false → Inv L v w → Inv (dIns L i) (dUpd v i undef) w) : DrawStep P ops Q A0 Inv i o := by
  intro L v a w h1 h2 h3 h4 K' hK
  rw [Array.any_eq_true'] at hj
  obtain ⟨e, he, hb⟩ := hj
  rw [Bool.and_eq_true, decide_eq_true_eq] at hb
  have hl : L j = true := hb.1 ▸ h2 e he hb.2
  rw [if_neg (by rw [wanted_at h3 hg ht hl (hv L v w h4 hl)]; cases want <;> decide)]
  exact hK.out _ _ (hi L v w h1 h4)
theorem DrawStep.skipU {A0 : Act} {Inv : (Nat → Bool) → (Nat → Value) → World → Prop} {i : Nat} {o : Oper} {j : Nat} {want : Bool} {t : Nat} (hg : o.guard = some (j, want)) (ht : (ops[j]?).bind (·.dst) = some t)
    (hj : (o.after.any fun e => decide (e.on = j) && Region.binds .any e) = true) (hv : ∀ L v w, Inv L v w → L j = true → v j = undef)
    (hi : ∀ L v w, L i = false → Inv L v w → Inv (dIns L i) (dUpd v i undef) w) : DrawStep P ops Q A0 Inv i o := by
  intro L v a w h1 h2 h3 h4 K' hK
  rw [Array.any_eq_true'] at hj
  obtain ⟨e, he, hb⟩ := hj
  rw [Bool.and_eq_true, decide_eq_true_eq] at hb
  have hl : L j = true := hb.1 ▸ h2 e he hb.2
  have hw : Region.wanted o (yielded ops a.tmps) = false := by
    have h := h3.get j hl ht
    rw [hv L v w h4 hl] at h
    unfold Region.wanted
    rw [hg]
    show (yielded ops a.tmps j == some want) = _
    unfold yielded
    rw [ht]
    simp only [Option.bind_some]
    cases hx : a.tmps[t]? with
    | none => rfl
    | some x =>
      rw [hx] at h
      have : x = undef := h
      subst this
      rfl
  rw [if_neg (by rw [hw]; decide)]
  exact hK.out _ _ (hi L v w h1 h4)
end
end Go.Proofs.Ytkmlkpfabkhleaa

/- Drawn regions that make one struct and store it last. -/
namespace Go.Proofs.Ytkmlkpfabkhleaa
open Go.RowKit
open SP
/-- The struct of a region: not made yet, made (cells zs), stored (cells ys). -/
def Pb (la ls : Bool) (v : Value) (T : TypeId) (zs ys : List Value) : SP :=
  st [pu (ls = true → la = true), if la = true then ex fun (g : Nat) => st [pu (v = .pointer (some ⟨g, 0, none⟩)), cel g T (if ls = true then ys else zs)] else pu True]
section
variable {w w' : World} {R : List SP} {v : Value} {T : TypeId} {zs ys : List Value}
theorem Pb.no (o : Own w R) : Own w (Pb false false v T zs ys :: R) := by
  unfold Pb
  rw [if_neg Bool.false_ne_true]
  exact Own.st.2 (Own.pu.2 ⟨fun h => h, Own.pu.2 ⟨trivial, o⟩⟩)
theorem Pb.new {ls : Bool} (o : Own w (Pb false ls v T zs ys :: R)) : Own (w.alloc (.cells zs.toArray T)) (Pb true ls (.pointer (some ⟨w.heap.size, 0, none⟩)) T zs ys :: R) := by
  unfold Pb at o ⊢
  obtain ⟨h, o⟩ := Own.pu.1 (Own.st.1 o)
  have hls : ls = false := by
    cases ls with
    | false => rfl
    | true => exact absurd (h rfl) Bool.false_ne_true
  subst hls
  rw [if_neg Bool.false_ne_true] at o
  rw [if_pos rfl, if_neg Bool.false_ne_true]
  exact Own.st.2 (Own.pu.2 ⟨fun _ => rfl, Own.ex.2 ⟨w.heap.size, Own.st.2 (Own.pu.2 ⟨rfl, (Own.pu.1 o).2.alloc _⟩)⟩⟩)
theorem Pb.val (o : Own w (Pb true false v T zs ys :: R)) : ∃ g : Nat, v = .pointer (some ⟨g, 0, none⟩) ∧ Own w (cel g T zs :: R) := by
  unfold Pb at o
  obtain ⟨_, o⟩ := Own.pu.1 (Own.st.1 o)
  rw [if_pos rfl, if_neg Bool.false_ne_true] at o
  obtain ⟨g, o⟩ := Own.ex.1 o
  obtain ⟨h, o⟩ := Own.pu.1 (Own.st.1 o)
  exact ⟨g, h, o⟩
theorem Pb.set {g : Nat} (o : Own w (cel g T ys :: R)) : Own w (Pb true true (.pointer (some ⟨g, 0, none⟩)) T zs ys :: R) := by
  unfold Pb
  rw [if_pos rfl, if_pos rfl]
  exact Own.st.2 (Own.pu.2 ⟨fun _ => rfl, Own.ex.2 ⟨g, Own.st.2 (Own.pu.2 ⟨rfl, o⟩)⟩⟩)
theorem Pb.put {g : Nat} {l : Bool} (o : Own w (cel g T ys :: R)) (hl : l = true) (hv : v = .pointer (some ⟨g, 0, none⟩)) : Own w (Pb l true v T zs ys :: R) := by
  subst hl
  subst hv
  exact Pb.set o
theorem Pb.got (o : Own w (Pb true true v T zs ys :: R)) : ∃ g : Nat, v = .pointer (some ⟨g, 0, none⟩) ∧ Own w (cel g T ys :: R) := by
  unfold Pb at o
  obtain ⟨_, o⟩ := Own.pu.1 (Own.st.1 o)
  rw [if_pos rfl, if_pos rfl] at o
  obtain ⟨g, o⟩ := Own.ex.1 o
  obtain ⟨h, o⟩ := Own.pu.1 (Own.st.1 o)
  exact ⟨g, h, o⟩
end
end Go.Proofs.Ytkmlkpfabkhleaa

/- A slot of cifq, walked: what it does where the heads fit. -/
namespace Go.Proofs.Ytkmlkpfabkhleaa
open Go.RowKit
open SP
section
variable {w w' : World} {R : List SP} {b rp lp cp xp nb N : Nat} {num den reb : Int} {s : Cq} {Sp : SP}

theorem headsAt_val {a : Option Addr} {H : List Head} (h1 : HeadsAt Sp a H) (o : Own w (Sp :: R)) {f : Int} (h : ∃ x ∈ H, x.f = f) :
    ∃ (g i : Nat), a = some ⟨g, 0, none⟩ ∧ i < H.length ∧ idxH f 0 H = (i : Int) ∧ w.cell? ⟨g, i * 3 + 1, none⟩ = some (.int .i64 (headOf H f).len) := by
  obtain ⟨i, e1, e2⟩ := headOf_idx h
  obtain ⟨g, h2, _, h3, _⟩ := h1 w R o i _ e1
  exact ⟨g, i, h2, (List.getElem?_eq_some_iff.1 e1).1, e2, h3⟩

def OrdCopyPost (b : Nat) (reb : Int) (o : Ord) (R : List SP) (w : World) (e : Ending) (w' : World) : Prop :=
  ∃ p, Ret (.pointer (some ⟨p, 0, none⟩)) (OrdR p reb o :: OrdR b reb o :: R) w e w'
theorem ordCopy_spec {C : Ord} (o : Own w (OrdR b reb C :: R)) : Calls Try.prog 32 #[.pointer (some ⟨b, 0, none⟩)] w (OrdCopyPost b reb C R w) := compCopy_spec o

theorem ordElig_spec {C : Ord} {a : Option Addr} {n c : Nat} {l : List (Int × Int)} (hn : n = l.length) (hl : PtOk l) (o : Own w (slc 134 2 a n c (flat part l) :: OrdR b reb C :: R)) :
    Calls Try.prog 34 #[.pointer (some ⟨b, 0, none⟩), .slice a n c] w (Ret (.int .i64 0) (slc 134 2 a n c (flat part l) :: OrdR b reb (eligO C l) :: R) w) :=
  eligible_ok a n c l hn (by have := hl.len; omega) hl.good o

theorem cqServe_ok {S : St} {C X : Ord} {k j why len : Int} (h1 : (chargeR reb S k len).1 = 0) (h2 : (servC reb C X ⟨k, j, why⟩ len).1 = 0) (haw : 0 ≤ S.aw ∧ S.aw ≤ 1152921504606846976) (hC : OrdOk C) (hX : OrdOk X)
    (o : Own w (CqC b num den rp lp cp xp nb :: SfqR rp reb S :: OrdR cp reb C :: OrdR xp reb X :: R)) :
    Calls Try.prog 37 #[.pointer (some ⟨b, 0, none⟩), .agg #[.int .i64 k, .int .i64 j, .int .i64 why], .int .i64 len] w
      (Ret (.int .i64 0) (CqC b num den rp lp cp xp nb :: SfqR rp reb (chargeR reb S k len).2 :: OrdR cp reb (servC reb C X ⟨k, j, why⟩ len).2.1 :: OrdR xp reb (servC reb C X ⟨k, j, why⟩ len).2.2 :: R) w) := by
  refine (cqServe_spec ⟨k, j, why⟩ len haw hC hX o).mono fun e w' h => ?_
  unfold CqServPost at h
  dsimp only at h
  rw [if_neg (by rw [h1]; simp), h2] at h
  exact h

def cntN (z : Bool) (n : List (Int × (Int × Int))) (c : Chc) (len : Int) : List (Int × (Int × Int)) := if z = true then bumpC n c len else n

set_option maxHeartbeats 6400000 in
set_option maxRecDepth 100000 in
theorem step_go {i m : Nat} {nu de : Nat} (hI : CqInv i m N s) (hi : i ≤ 299) (hm : m ≤ 200000) (hN : N ≤ 1000000) (hnu : nu < 4194304) (hde : de < 4194304)
    {a : Option Addr} {n c : Nat} {H : List Head} (h1 : HeadsAt Sp a H) (hn : n = H.length) (hl : n ≤ 32) (hf : fitsH s.R.L H = true) (hne : H ≠ [])
    (o : Own w (CqC b (nu : Int) (de : Int) rp lp cp xp nb :: SfqR rp reb s.R :: LagR lp N s.D :: mpI cntV nb s.n :: OrdR cp reb s.C :: OrdR xp reb s.X :: Sp :: R)) :
    Calls Try.prog 12 #[.pointer (some ⟨b, 0, none⟩), .slice a n c] w
      (Ret (.tuple #[chV (stepC (nu : Int) (de : Int) reb s H).1, .int .i64 (stepC (nu : Int) (de : Int) reb s H).2.1]) (CqF b (nu : Int) (de : Int) reb (N + 1) (stepC (nu : Int) (de : Int) reb s H).2.2 :: Sp :: R) w) := by
  have hn0 : ¬ n = 0 := fun h => hne (List.eq_nil_of_length_eq_zero (by omega))
  have oA := (o.alloc (.cells #[.int .i64 0, .int .i64 0, .int .i64 0] 33)).alloc (.cells #[.int .i64 (-1), .int .i64 (-1), .int .i64 6] 33)
  simp only [World.size_alloc] at oA
  have hc := fits_spec (c := c) h1 hn (by omega) (oA.re [2, 3, 8, 0, 1, 4, 5, 6, 7])
  rw [hf] at hc
  have Hn := Lib.hid hn
  have hFit := Lib.hid (fits_facts hf)
  have HlD : s.D.length = n := by rw [hI.len, Hn.out, ← List.length_map (f := fun x => x.f), ← hFit.out.1, List.length_map]
  have hL : s.R.L ≠ [] := fun e => hn0 (by rw [← HlD, hI.len, e]; rfl)
  have hk : ∃ h ∈ H, h.f = (selT s.R.L).1 := by
    have h2 := (selT_mem hL).2
    rw [(selT_mem hL).1]
    rw [← hFit.out.1] at h2
    obtain ⟨x, hx, e⟩ := List.mem_map.1 h2
    exact ⟨x, hx, e⟩
  have hcn := hI.cnt (selT s.R.L).1
  obtain ⟨cr, hcr⟩ := Int.eq_ofNat_of_zero_le hcn.1
  obtain ⟨cl, hcl⟩ := Int.eq_ofNat_of_zero_le hcn.2.2.1
  have hcc : cntO s.n (selT s.R.L).1 = ((cr : Int), (cl : Int)) := by rw [← hcr, ← hcl]
  have hcr' : cr < 1099511627776 := by omega
  have hcl' : cl < 1099511627776 := by omega
  have hso : (!(allH s.D H).isEmpty) = decide (0 < (allH s.D H).length) := by cases allH s.D H <;> rfl
  obtain ⟨C, hC⟩ : ∃ C, eligO s.C (lagH s.D H) = C := ⟨_, rfl⟩
  obtain ⟨X, hX⟩ : ∃ X, eligO s.X (allH s.D H) = X := ⟨_, rfl⟩
  obtain ⟨cc, hch⟩ : ∃ cc, chooseC (nu : Int) (de : Int) { s with C := C, X := X } H (!(allH s.D H).isEmpty) = cc := ⟨_, rfl⟩
  obtain ⟨oC, oX, eC, eX, hstep⟩ := hI.step hi hN (nu : Int) (de : Int) reb hf hne hC hX hch
  rw [hso] at hch
  have hcho := fun (w : World) (b rp cp xp : Nat) (R : List SP) o => choose_spec (w := w) (b := b) (rp := rp) (cp := cp) (xp := xp) (R := R) (lp := lp) (nb := nb) (N := N) (reb := reb) (Sp := Sp) (c := c) (so := decide (0 < (allH s.D H).length)) (s := { s with C := C, X := X }) hnu hde hcr' hcl' hcc h1 hn hl hk (oC.ok (by omega)) (oX.ok (by omega)) o
  rw [hch] at hcho
  have HC := Lib.hid hC
  have HX := Lib.hid hX
  clear hk
  obtain ⟨k, hk⟩ : ∃ k, (lst s.R.L).f = k := ⟨_, rfl⟩
  rw [hk] at hstep
  have HS := Lib.hid hstep
  have HO := Lib.hid (And.intro (oC.ok (by omega)) (oX.ok (by omega)))
  clear hk
  have HCHO := Lib.hid hcho
  clear hcn hcr hcl hcc hcr' hcl' hso hC hX hch oC oX eC eX hstep hcho
  have hl : n ≤ 32 := hl
  clear hn
  go_enter Try.func12, Try.ntmps12
  go_wp2_with fail
  refine hc.mono ?_
  rintro e1 w1 ⟨rfl, o1, k1⟩
  clear hc
  have c0 := o1.cell 0
  have c1 := o1.cell 1
  have c2 := o1.cell 2
  have c3 := o1.cell 3
  have c4 := o1.cell 4
  have c5 := o1.cell 5
  have c6 := o1.cell 6
  have cl := o1.celLt
  have oB := o1.alloc (.cells #[.int .i64 (nu : Int), .int .i64 (de : Int), .pointer (some ⟨rp, 0, none⟩), .pointer (some ⟨lp, 0, none⟩), .pointer (some ⟨cp, 0, none⟩), .pointer (some ⟨xp, 0, none⟩), .map (some nb)] 74)
  go_wp2
  have oBd := oB.drew.re [2, 0, 1, 3, 4, 5, 6, 7, 8, 9]
  have c2' := (oB.up 1).cell 2
  have c4' := (oB.up 1).cell 4
  have c5' := (oB.up 1).cell 5
  go_region_held3 (fun w' => w'.cell? ⟨b, 2, none⟩ = some (.pointer (some ⟨rp, 0, none⟩)) ∧ w'.cell? ⟨b, 4, none⟩ = some (.pointer (some ⟨cp, 0, none⟩)) ∧ w'.cell? ⟨b, 5, none⟩ = some (.pointer (some ⟨xp, 0, none⟩))) (go_keep) (first
    | (go_at_call 31; (with_reducible refine (sfqCopy_spec oBd).mono ?_); rintro e2 w2 ⟨rq, rfl, o2, k2⟩; have x2 := (o2.up 3).cell 2; have x4 := (o2.up 3).cell 4; have x5 := (o2.up 3).cell 5; have o2b := o2.re [9])
    | (go_at_call 32; (with_reducible refine (ordCopy_spec o2b).mono ?_); rintro e3 w3 ⟨cq, rfl, o3, k3⟩; have y2 := (o3.up 5).cell 2; have y4 := (o3.up 5).cell 4; have y5 := (o3.up 5).cell 5; have o3b := o3.re [11])
    | (go_at_call 32; (with_reducible refine (ordCopy_spec o3b).mono ?_); rintro e4 w4 ⟨xq, rfl, o4, k4⟩; have z2 := (o4.up 7).cell 2; have z4 := (o4.up 7).cell 4; have z5 := (o4.up 7).cell 5; have t2 := (o4.up 6).cell 2; have tf := (o4.up 6).frozen; have tl := (o4.up 6).celLt; have oS := (o4.up 6).setCell 2 (.pointer (some ⟨rq, 0, none⟩)); have s2 := (oS.up 7).cell 2; have s4 := (oS.up 7).cell 4; have s5 := (oS.up 7).cell 5; have t4 := oS.cell 4; have sf := oS.frozen; have sl := oS.celLt; have oS2 := oS.setCell 4 (.pointer (some ⟨cq, 0, none⟩)); have u2 := (oS2.up 7).cell 2; have u4 := (oS2.up 7).cell 4; have u5 := (oS2.up 7).cell 5; have t5 := oS2.cell 5; have uf := oS2.frozen; have ul := oS2.celLt; have oS3 := oS2.setCell 5 (.pointer (some ⟨xq, 0, none⟩)); have v2 := (oS3.up 7).cell 2; have v4 := (oS3.up 7).cell 4; have v5 := (oS3.up 7).cell 5))
  have oT : Own _ (CqC w1.heap.size (nu : Int) (de : Int) rq lp cq xq nb :: _) := oS3.re [2, 4, 6] 3
  have KK : Calm w w4 := Calm.trans ⟨k1.os, k1.tape, k1.output⟩ (Calm.trans ⟨k2.os, k2.tape, k2.output⟩ (Calm.trans k3 k4))
  generalize w1.heap.size = tb at *
  clear c0 c1 c2 c3 c4 c5 c6 cl oB oBd c2' c4' c5' x2 x4 x5 o2 o2b o3 y2 y4 y5 o3b z2 z4 z5 t2 tf tl s2 s4 s5 t4 sf sl oS oS2 u2 u4 u5 t5 uf ul o1 oA o o4 v2 v4 v5
  have oU := oT.re [4, 8, 5]
  go_wp2_with fail
  refine (sending_spec (c := c) h1 Hn.out HlD hl oU).mono ?_
  rintro e5 w5 ⟨a1, a2, q1, q2, rfl, o5, k5⟩
  have K5 : Calm w w5 := KK.trans ⟨k5.os, k5.tape, k5.output⟩
  clear KK k5 k1 k2 k3 k4
  have hpL : PtOk (lagH s.D H) := hI.dpt.sub (pickH_sub _ _ _)
  have hpA : PtOk (allH s.D H) := hI.dpt.sub (pickH_sub _ _ _)
  have HpL := Lib.hid hpL
  have HpA := Lib.hid hpA
  clear hpL hpA
  have x4 := (o5.up 5).cell 4
  have xl := (o5.up 5).celLt
  have hcall := ordElig_spec (b := cq) (reb := reb) (C := s.C) (c := q2) rfl HpL.out (o5.re [1, 7, 0, 2, 3, 4, 5, 6])
  go_wp2_with fail
  refine hcall.mono ?_
  rintro e6 w6 ⟨rfl, o6, k6⟩
  clear hcall x4 xl o5
  have y5 := (o6.up 6).cell 5
  have yl := (o6.up 6).celLt
  have hcall := ordElig_spec (b := xq) (reb := reb) (C := s.X) (c := q1) rfl HpA.out (o6.re [2, 7, 0, 1, 3, 4, 5, 6])
  go_wp2_with fail
  refine hcall.mono ?_
  rintro e7 w7 ⟨rfl, o7, k7⟩
  clear hcall y5 yl o6
  rw [HC.out, HX.out] at o7
  have hcall := HCHO.out _ _ _ _ _ _ (o7.re [7, 8, 5, 11, 3, 1, 6, 4, 9, 10, 0, 2])
  go_wp2_with fail
  refine hcall.mono ?_
  rintro e8 w8 ⟨rfl, o8, k8⟩
  have K8 : Calm w w8 := K5.trans (k6.trans (k7.trans k8))
  clear hcall o7 K5 k6 k7 k8
  rcases HS.out with ⟨rfl, hst, _⟩ | ⟨j, why, len, rfl, hj0, hlen, hjH, l1, l2, hway, hst, q1, q2, q3, hI'⟩
  · have HST := Lib.hid hst
    clear hst HS HCHO
    have oK := o8.alloc (.cells #[.int .i64 (-1), .int .i64 (-1), .int .i64 6] 33)
    have t0 := oK.cell (T := 33) (vs := [.int .i64 (-1), .int .i64 (-1), .int .i64 6]) 0
    have t1 := oK.cell (T := 33) (vs := [.int .i64 (-1), .int .i64 (-1), .int .i64 6]) 1
    have t2 := oK.cell (T := 33) (vs := [.int .i64 (-1), .int .i64 (-1), .int .i64 6]) 2
    have i0 := Own.cell (T := 33) (vs := [.int .i64 (-1), .int .i64 (-1), .int .i64 6]) (oK.up 9) 0
    have i1 := Own.cell (T := 33) (vs := [.int .i64 (-1), .int .i64 (-1), .int .i64 6]) (oK.up 9) 1
    have i2 := Own.cell (T := 33) (vs := [.int .i64 (-1), .int .i64 (-1), .int .i64 6]) (oK.up 9) 2
    have n0 := (oK.up 1).cell 0
    have n1 := (oK.up 1).cell 1
    have n2 := (oK.up 1).cell 2
    have n3 := (oK.up 1).cell 3
    have n4 := (oK.up 1).cell 4
    have n5 := (oK.up 1).cell 5
    have n6 := (oK.up 1).cell 6
    have b0 := (oK.up 8).cell 0
    have b1 := (oK.up 8).cell 1
    have b2 := (oK.up 8).cell 2
    have b3 := (oK.up 8).cell 3
    have b4 := (oK.up 8).cell 4
    have b5 := (oK.up 8).cell 5
    have b6 := (oK.up 8).cell 6
    have bf := (oK.up 8).frozen
    have bl := (oK.up 8).celLt
    have oM0 := (oK.up 8).setCell 0 (.int .i64 (nu : Int))
    have oM1 := oM0.setCell 1 (.int .i64 (de : Int))
    have oM2 := oM1.setCell 2 (.pointer (some ⟨rq, 0, none⟩))
    have oM3 := oM2.setCell 3 (.pointer (some ⟨lp, 0, none⟩))
    have oM4 := oM3.setCell 4 (.pointer (some ⟨cq, 0, none⟩))
    have oM5 := oM4.setCell 5 (.pointer (some ⟨xq, 0, none⟩))
    have oM6 := oM5.setCell 6 (.map (some nb))
    have oM : Own _ (CqC b (nu : Int) (de : Int) rq lp cq xq nb :: _) := oM6
    clear oM0 oM1 oM2 oM3 oM4 oM5 oM6
    have u0 := Own.cell (T := 33) (vs := [.int .i64 (-1), .int .i64 (-1), .int .i64 6]) (oM.up 1) 0
    have u1 := Own.cell (T := 33) (vs := [.int .i64 (-1), .int .i64 (-1), .int .i64 6]) (oM.up 1) 1
    have u2 := Own.cell (T := 33) (vs := [.int .i64 (-1), .int .i64 (-1), .int .i64 6]) (oM.up 1) 2
    have z0 := Own.cell (T := 33) (vs := [.int .i64 0, .int .i64 0, .int .i64 0]) (oM.up 10) 0
    have z1 := Own.cell (T := 33) (vs := [.int .i64 0, .int .i64 0, .int .i64 0]) (oM.up 10) 1
    have z2 := Own.cell (T := 33) (vs := [.int .i64 0, .int .i64 0, .int .i64 0]) (oM.up 10) 2
    have zf := Own.frozen (T := 33) (vs := [.int .i64 0, .int .i64 0, .int .i64 0]) (oM.up 10)
    have zl := Own.celLt (T := 33) (vs := [.int .i64 0, .int .i64 0, .int .i64 0]) (oM.up 10)
    have oZ0 := Own.setCell (T := 33) (vs := [.int .i64 0, .int .i64 0, .int .i64 0]) (oM.up 10) 0 (.int .i64 (-1))
    have oZ1 := Own.setCell (T := 33) (vs := [.int .i64 (-1), .int .i64 0, .int .i64 0]) oZ0 1 (.int .i64 (-1))
    have oZ2 := Own.setCell (T := 33) (vs := [.int .i64 (-1), .int .i64 (-1), .int .i64 0]) oZ1 2 (.int .i64 6)
    have KM := qcalm_set (x := ⟨b, 6, none⟩) (v := .map (some nb)) (qcalm_set (x := ⟨b, 5, none⟩) (v := .pointer (some ⟨xq, 0, none⟩)) (qcalm_set (x := ⟨b, 4, none⟩) (v := .pointer (some ⟨cq, 0, none⟩)) (qcalm_set (x := ⟨b, 3, none⟩) (v := .pointer (some ⟨lp, 0, none⟩)) (qcalm_set (x := ⟨b, 2, none⟩) (v := .pointer (some ⟨rq, 0, none⟩)) (qcalm_set (x := ⟨b, 1, none⟩) (v := .int .i64 (de : Int)) (qcalm_set (x := ⟨b, 0, none⟩) (v := .int .i64 (nu : Int)) (qcalm_alloc (x := .cells #[.int .i64 (-1), .int .i64 (-1), .int .i64 6] 33) K8)))))))
    have KZ := qcalm_set (x := ⟨w.heap.size, 2, none⟩) (v := .int .i64 6) (qcalm_set (x := ⟨w.heap.size, 1, none⟩) (v := .int .i64 (-1)) (qcalm_set (x := ⟨w.heap.size, 0, none⟩) (v := .int .i64 (-1)) KM))
    unfold chIdle chV
    dsimp only
    go_wp2
    refine bodyPost_ret (v := .tuple #[chV ⟨-1, -1, 6⟩, .int .i64 0]) ?_ rfl ?_
    · exact chRow2 (p := w.heap.size) rfl rfl rfl oZ2
    · rw [HST.out]
      have oF := oZ2.re [0, 2, 3, 10, 11, 12] 6
      have oG := (LagR.le (Nat.le_succ N) (oF.re [2])).re [1, 2, 0]
      exact ⟨rfl, CqF.iff.2 ⟨rq, lp, cq, xq, nb, oG⟩, KZ⟩
  · have HST := Lib.hid hst
    clear hst HS HCHO
    obtain ⟨ix, hix, hidx⟩ := headOf_idx hjH
    obtain ⟨g, rfl, _⟩ := h1 _ _ (o8.up 6) ix _ hix
    have hin : ix < n := by have := (List.getElem?_eq_some_iff.1 hix).1; have := Hn.out; omega
    have oK := o8.alloc (.cells #[.int .i64 k, .int .i64 j, .int .i64 why] 33)
    have hcall := index_spec (f := j) (c := c) h1 Hn.out (by omega) (oK.re [7])
    rw [hidx] at hcall
    have HIX := Lib.hid hix
    have HQ1 := Lib.hid q1
    have HQ2 := Lib.hid q2
    have HQ3 := Lib.hid q3
    have HLEN := Lib.hid hlen
    have HJH := Lib.hid hjH
    have HW := Lib.hid hway
    have HI' := Lib.hid hI'
    clear hidx hix q1 q2 q3 hlen hjH hway hI'
    have jn : (j == -1) = false := by simp; omega
    have t0 := oK.cell (T := 33) (vs := [.int .i64 k, .int .i64 j, .int .i64 why]) 0
    have t1 := oK.cell (T := 33) (vs := [.int .i64 k, .int .i64 j, .int .i64 why]) 1
    have t2 := oK.cell (T := 33) (vs := [.int .i64 k, .int .i64 j, .int .i64 why]) 2
    have i0 := Own.cell (T := 33) (vs := [.int .i64 (-1), .int .i64 (-1), .int .i64 6]) (oK.up 9) 0
    have i1 := Own.cell (T := 33) (vs := [.int .i64 (-1), .int .i64 (-1), .int .i64 6]) (oK.up 9) 1
    have i2 := Own.cell (T := 33) (vs := [.int .i64 (-1), .int .i64 (-1), .int .i64 6]) (oK.up 9) 2
    unfold chV
    dsimp only
    go_wp2_with fail
    refine hcall.mono ?_
    rintro e9 w9 ⟨rfl, o9, k9⟩
    clear hcall t0 t1 t2 i0 i1 i2 oK o8
    obtain ⟨g', hg', _, hcell, _⟩ := h1 _ _ o9 ix _ HIX.out
    cases hg'
    rw [HLEN.out] at hcell
    have t0 := Own.cell (T := 33) (vs := [.int .i64 k, .int .i64 j, .int .i64 why]) (o9.up 1) 0
    have t1 := Own.cell (T := 33) (vs := [.int .i64 k, .int .i64 j, .int .i64 why]) (o9.up 1) 1
    have t2 := Own.cell (T := 33) (vs := [.int .i64 k, .int .i64 j, .int .i64 why]) (o9.up 1) 2
    have haw : 0 ≤ s.R.aw ∧ s.R.aw ≤ 1152921504606846976 := by have := hI.aw; have := hI.t.ok.tm; omega
    have hcall := cqServe_ok (num := (nu : Int)) (den := (de : Int)) HQ1.out HQ2.out haw HO.out.1 HO.out.2 (o9.re [2, 3, 6, 7])
    clear haw
    go_wp2_with fail
    refine hcall.mono ?_
    rintro e10 w10 ⟨rfl, o10, k10⟩
    have K10 : Calm w w10 := K8.trans ⟨k10.os.trans k9.os, k10.tape.trans k9.tape, k10.output.trans k9.output⟩
    clear K8 k9 k10 hcall hcell t0 t1 t2 o9
    obtain ⟨S', hS'⟩ : ∃ S', (chargeR reb s.R k len).2 = S' := ⟨_, rfl⟩
    obtain ⟨C', hC'⟩ : ∃ C', (servC reb C X ⟨k, j, why⟩ len).2.1 = C' := ⟨_, rfl⟩
    obtain ⟨X', hX'⟩ : ∃ X', (servC reb C X ⟨k, j, why⟩ len).2.2 = X' := ⟨_, rfl⟩
    rw [hS', hC', hX'] at o10
    have HS' := Lib.hid hS'
    have HC' := Lib.hid hC'
    have HX' := Lib.hid hX'
    clear hS' hC' hX'
    have o11 := o10.re [8, 6]
    clear o10
    generalize w8.heap.size = cb at *
    go_upto_region 19 with fail
    go_cut [13] (fun v wc => v = .bool (countC (nu : Int) (de : Int) s ⟨k, j, why⟩) ∧ Own wc (CqC b (nu : Int) (de : Int) rp lp cp xp nb :: LagR lp N s.D :: CqC tb (nu : Int) (de : Int) rq lp cq xq nb :: SfqR rq reb S' :: OrdR cq reb C' :: OrdR xq reb X' :: Sp :: cel cb 33 [.int .i64 k, .int .i64 j, .int .i64 why] :: mpI cntV nb s.n :: cel (w.heap.size + 1) 33 [.int .i64 (-1), .int .i64 (-1), .int .i64 6] :: cel w.heap.size 33 [.int .i64 0, .int .i64 0, .int .i64 0] :: R) ∧ Calm w wc)
    case first =>
      have t0 := Own.cell (T := 33) (vs := [.int .i64 k, .int .i64 j, .int .i64 why]) (o11.up 7) 0
      have hlead := leading_spec k o11
      cases hld : decide (lagO s.D k < 0) with
      | false =>
        rw [hld] at hlead
        have hcnt : countC (nu : Int) (de : Int) s ⟨k, j, why⟩ = false := by unfold countC; dsimp only; rw [hld]; rfl
        have HCN := Lib.hid hcnt
        clear hld hcnt
        go_wp2_with fail
        refine hlead.mono ?_
        rintro e11 w11 ⟨rfl, o12, k11⟩
        clear hlead
        go_wp2
        go_meet
        exact ⟨by rw [HCN.out], o12.re [11, 12] 2, K10.trans k11⟩
      | true =>
        rw [hld] at hlead
        rcases HW.out with ⟨rfl, _⟩ | ⟨rfl | rfl, _⟩ | ⟨rfl, _⟩
        · have hcnt : countC (nu : Int) (de : Int) s ⟨k, j, 1⟩ = keepsO (nu : Int) (de : Int) (cntO s.n k) := by unfold countC; dsimp only; rw [hld]; rfl
          have HCN := Lib.hid hcnt
          clear hld hcnt
          go_wp2_with fail
          refine hlead.mono ?_
          rintro e11 w11 ⟨rfl, o12, k11⟩
          clear hlead
          have hcn := hI.cnt k
          obtain ⟨cr, hcr⟩ := Int.eq_ofNat_of_zero_le hcn.1
          obtain ⟨cl, hcl⟩ := Int.eq_ofNat_of_zero_le hcn.2.2.1
          have hkp := keeps_spec (cr := cr) (cl := cl) k hnu hde (by omega) (by omega) (by rw [← hcr, ← hcl]) (o12.re [0, 8])
          rw [← HCN.out] at hkp
          clear hcn hcr hcl
          have u0 := Own.cell (T := 33) (vs := [.int .i64 k, .int .i64 j, .int .i64 1]) (o12.up 7) 0
          have u2 := Own.cell (T := 33) (vs := [.int .i64 k, .int .i64 j, .int .i64 1]) (o12.up 7) 2
          generalize countC (nu : Int) (de : Int) s ⟨k, j, 1⟩ = Z at *
          go_wp2_with fail
          refine hkp.mono ?_
          rintro e12 w12 ⟨rfl, o13, k12⟩
          clear hkp
          go_wp2
          go_meet
          exact ⟨rfl, o13.re [11, 12, 0, 2, 3, 4, 5, 6, 7, 8, 1] 2, K10.trans (k11.trans k12)⟩
        · have hcnt : countC (nu : Int) (de : Int) s ⟨k, j, 2⟩ = true := by unfold countC; dsimp only; rw [hld]; rfl
          have HCN := Lib.hid hcnt
          clear hld hcnt
          go_wp2_with fail
          refine hlead.mono ?_
          rintro e11 w11 ⟨rfl, o12, k11⟩
          clear hlead
          have u2 := Own.cell (T := 33) (vs := [.int .i64 k, .int .i64 j, .int .i64 2]) (o12.up 7) 2
          go_wp2
          go_meet
          exact ⟨by rw [HCN.out], o12.re [11, 12] 2, K10.trans k11⟩
        · have hcnt : countC (nu : Int) (de : Int) s ⟨k, j, 3⟩ = false := by unfold countC; dsimp only; rw [hld]; rfl
          have HCN := Lib.hid hcnt
          clear hld hcnt
          go_wp2_with fail
          refine hlead.mono ?_
          rintro e11 w11 ⟨rfl, o12, k11⟩
          clear hlead
          have u2 := Own.cell (T := 33) (vs := [.int .i64 k, .int .i64 j, .int .i64 3]) (o12.up 7) 2
          go_wp2
          go_meet
          exact ⟨by rw [HCN.out], o12.re [11, 12] 2, K10.trans k11⟩
        · have hcnt : countC (nu : Int) (de : Int) s ⟨k, j, 4⟩ = false := by unfold countC; dsimp only; rw [hld]; rfl
          have HCN := Lib.hid hcnt
          clear hld hcnt
          go_wp2_with fail
          refine hlead.mono ?_
          rintro e11 w11 ⟨rfl, o12, k11⟩
          clear hlead
          have u2 := Own.cell (T := 33) (vs := [.int .i64 k, .int .i64 j, .int .i64 4]) (o12.up 7) 2
          go_wp2
          go_meet
          exact ⟨by rw [HCN.out], o12.re [11, 12] 2, K10.trans k11⟩
    case rest =>
      obtain ⟨rfl, o12, k12⟩ := hcut
      clear o11 K10
      generalize hZ : countC (nu : Int) (de : Int) s ⟨k, j, why⟩ = Z
      have HZ := Lib.hid hZ
      clear hZ
      have c3 := o12.cell 3
      have cl := o12.celLt
      have t0 := Own.cell (T := 33) (vs := [.int .i64 k, .int .i64 j, .int .i64 why]) (o12.up 7) 0
      have t1 := Own.cell (T := 33) (vs := [.int .i64 k, .int .i64 j, .int .i64 why]) (o12.up 7) 1
      have hmv := lagMove_spec k j len (by omega) (o12.drew.re [1])
      rw [HQ3.out] at hmv
      go_wp2
      refine wp_region_tail 9 (by kernel_rfl) (by kernel_rfl) ?_
      simp only [List.take_succ_cons, List.take_zero, List.drop_succ_cons, List.drop_zero]
      repeat still_step
      refine wpStill_nil ?_
      go_wp2_with fail
      refine hmv.mono ?_
      rintro e13 w13 ⟨rfl, o13, k13⟩
      have K13 : Calm w w13 := k12.trans ⟨k13.os, k13.tape, k13.output⟩
      obtain ⟨D', hD'⟩ : ∃ D', (nMove s.D k j len).2 = D' := ⟨_, rfl⟩
      rw [hD'] at o13
      have HD' := Lib.hid hD'
      have hm' : (m : Int) ≤ 200000 := by omega
      clear hmv c3 cl t0 t1 k12 k13 o12 hD'
      have n0 := (o13.up 2).cell 0
      have n1 := (o13.up 2).cell 1
      have n2 := (o13.up 2).cell 2
      have n3 := (o13.up 2).cell 3
      have n4 := (o13.up 2).cell 4
      have n5 := (o13.up 2).cell 5
      have n6 := (o13.up 2).cell 6
      have b0 := (o13.up 1).cell 0
      have b1 := (o13.up 1).cell 1
      have b2 := (o13.up 1).cell 2
      have b3 := (o13.up 1).cell 3
      have b4 := (o13.up 1).cell 4
      have b5 := (o13.up 1).cell 5
      have b6 := (o13.up 1).cell 6
      have bf := (o13.up 1).frozen
      have bl := (o13.up 1).celLt
      have oM0 := (o13.up 1).setCell 0 (.int .i64 (nu : Int))
      have oM1 := oM0.setCell 1 (.int .i64 (de : Int))
      have oM2 := oM1.setCell 2 (.pointer (some ⟨rq, 0, none⟩))
      have oM3 := oM2.setCell 3 (.pointer (some ⟨lp, 0, none⟩))
      have oM4 := oM3.setCell 4 (.pointer (some ⟨cq, 0, none⟩))
      have oM5 := oM4.setCell 5 (.pointer (some ⟨xq, 0, none⟩))
      have oM6 := oM5.setCell 6 (.map (some nb))
      have oM : Own _ (CqC b (nu : Int) (de : Int) rq lp cq xq nb :: _) := oM6
      clear oM0 oM1 oM2 oM3 oM4 oM5 oM6
      have KM := qcalm_set (x := ⟨b, 6, none⟩) (v := .map (some nb)) (qcalm_set (x := ⟨b, 5, none⟩) (v := .pointer (some ⟨xq, 0, none⟩)) (qcalm_set (x := ⟨b, 4, none⟩) (v := .pointer (some ⟨cq, 0, none⟩)) (qcalm_set (x := ⟨b, 3, none⟩) (v := .pointer (some ⟨lp, 0, none⟩)) (qcalm_set (x := ⟨b, 2, none⟩) (v := .pointer (some ⟨rq, 0, none⟩)) (qcalm_set (x := ⟨b, 1, none⟩) (v := .int .i64 (de : Int)) (qcalm_set (x := ⟨b, 0, none⟩) (v := .int .i64 (nu : Int)) K13))))))
      go_upto_if 127 with fail
      go_cut [15] (fun _ wc => Own wc (CqC b (nu : Int) (de : Int) rq lp cq xq nb :: LagR lp (N + 1) D' :: mpI cntV nb (cntN Z s.n ⟨k, j, why⟩ len) :: SfqR rq reb S' :: OrdR cq reb C' :: OrdR xq reb X' :: Sp :: cel cb 33 [.int .i64 k, .int .i64 j, .int .i64 why] :: cel w.heap.size 33 [.int .i64 0, .int .i64 0, .int .i64 0] :: R) ∧ Calm w wc)
      case first =>
        clear HZ
        cases Z with
        | false =>
          have hcN : cntN false s.n ⟨k, j, why⟩ len = s.n := rfl
          have HCN := Lib.hid hcN
          clear hcN
          go_wp2
          go_meet
          rw [HCN.out]
          exact ⟨oM.re [2, 9, 0, 1, 8, 3, 4, 5, 6, 7, 10] 2, KM⟩
        | true =>
          have hcN : cntN true s.n ⟨k, j, why⟩ len = bumpC s.n ⟨k, j, why⟩ len := rfl
          have hcb := hI.cnt k
          have hbu : bumpC s.n ⟨k, j, why⟩ len = mput s.n k ((cntO s.n k).1 + len, if k = j then (cntO s.n k).2 + len else (cntO s.n k).2) := rfl
          rw [hbu] at hcN
          have hlk := fun (w : World) (R : List SP) (o : Own w (mpI cntV nb s.n :: R)) => lookC o k
          unfold cntV at hlk
          generalize cntO s.n k = cn at *
          obtain ⟨cr, cl⟩ := cn
          dsimp only at hcb hlk hcN
          have HLK := Lib.hid hlk
          clear hlk
          have HCN := Lib.hid hcN
          have wr := IntWalk.i64_in (cr + len) (by omega)
          have wl := IntWalk.i64_in (cl + len) (by omega)
          clear hcN hbu
          have b6 := oM.cell 6
          have bl := oM.celLt
          have t0 := Own.cell (T := 33) (vs := [.int .i64 k, .int .i64 j, .int .i64 why]) (oM.up 7) 0
          have t1 := Own.cell (T := 33) (vs := [.int .i64 k, .int .i64 j, .int .i64 why]) (oM.up 7) 1
          have tl := Own.celLt (T := 33) (vs := [.int .i64 k, .int .i64 j, .int .i64 why]) (oM.up 7)
          go_wp2
          refine wp_region_draws (fun L v wc => Own wc (Pb (L 7) (L 8) (v 7) 87 [.int .i64 0, .int .i64 0] [.int .i64 cr, .int .i64 cl] :: CqC b (nu : Int) (de : Int) rq lp cq xq nb :: LagR lp (N + 1) D' :: CqC tb (nu : Int) (de : Int) rq lp cq xq nb :: SfqR rq reb S' :: OrdR cq reb C' :: OrdR xq reb X' :: Sp :: cel cb 33 [.int .i64 k, .int .i64 j, .int .i64 why] :: mpI cntV nb s.n :: cel (w.heap.size + 1) 33 [.int .i64 (-1), .int .i64 (-1), .int .i64 6] :: cel w.heap.size 33 [.int .i64 0, .int .i64 0, .int .i64 0] :: R) ∧ Calm w wc ∧ OVals (fun i => ([some (.pointer (some ⟨b, 0, none⟩)), some (.pointer (some ⟨b, 0, none⟩)), some (.pointer (some ⟨b, 6, none⟩)), some (.map (some nb)), some (.pointer (some ⟨cb, 0, none⟩)), some (.int .i64 k), some (.agg #[.int .i64 cr, .int .i64 cl]), none, none] : List (Option Value)).getD i none) L v) (by kernel_rfl) (by kernel_rfl) (by kernel_rfl) ?h0 ?step ?fin
          case h0 => exact ⟨Pb.no oM.drew, qcalm_drew KM, OVals.no⟩
          case step =>
            refine ⟨DrawStep.mk rfl ?_, DrawStep.mk rfl ?_, DrawStep.mk rfl ?_, DrawStep.mk rfl ?_, DrawStep.mk rfl ?_, DrawStep.mk rfl ?_, DrawStep.mk rfl ?_, DrawStep.mk rfl ?_, DrawStep.mk rfl ?_, trivial⟩
            all_goals intro L v actZ wc hL hd hA hI K' hK
            all_goals obtain ⟨oD, kD, hv⟩ := hI
            all_goals simp [Region.binds] at hd
            all_goals have HV := Lib.hid hv
            all_goals clear hv
            · have c0_ := hA.base 0 (by rfl)
              simp only [List.getElem?_toArray, List.getElem?_cons_zero, Option.getD_some] at c0_
              go_simp
              exact hK.out (.pointer (some ⟨b, 0, none⟩)) _ ⟨oD, kD, HV.out.put 0 (fun _ h => some_eq h)⟩
            · have h0_ : L 0 = true := by simp [hd]
              have c128_ : actZ.tmps[128]?.getD undef = .pointer (some ⟨b, 0, none⟩) := (hA.get 0 h0_).trans (HV.out 0 _ rfl h0_)
              go_simp
              exact hK.out (.pointer (some ⟨b, 0, none⟩)) _ ⟨oD, kD, HV.out.put 1 (fun _ h => some_eq h)⟩
            · have h1_ : L 1 = true := by simp [hd]
              have c129_ : actZ.tmps[129]?.getD undef = .pointer (some ⟨b, 0, none⟩) := (hA.get 1 h1_).trans (HV.out 1 _ rfl h1_)
              go_simp
              exact hK.out (.pointer (some ⟨b, 6, none⟩)) _ ⟨oD, kD, HV.out.put 2 (fun _ h => some_eq h)⟩
            · have h2_ : L 2 = true := by simp [hd]
              have c130_ : actZ.tmps[130]?.getD undef = .pointer (some ⟨b, 6, none⟩) := (hA.get 2 h2_).trans (HV.out 2 _ rfl h2_)
              have u_ := (oD.up 1).cell 6
              go_simp
              exact hK.out (.map (some nb)) _ ⟨oD, kD, HV.out.put 3 (fun _ h => some_eq h)⟩
            · have c10_ := hA.base 10 (by rfl)
              simp only [List.getElem?_toArray, List.getElem?_cons_zero, List.getElem?_cons_succ, Option.getD_some] at c10_
              go_simp
              exact hK.out (.pointer (some ⟨cb, 0, none⟩)) _ ⟨oD, kD, HV.out.put 4 (fun _ h => some_eq h)⟩
            · have h4_ : L 4 = true := by simp [hd]
              have c132_ : actZ.tmps[132]?.getD undef = .pointer (some ⟨cb, 0, none⟩) := (hA.get 4 h4_).trans (HV.out 4 _ rfl h4_)
              have u_ := Own.cell (T := 33) (vs := [.int .i64 k, .int .i64 j, .int .i64 why]) (oD.up 8) 0
              go_simp
              exact hK.out (.int .i64 k) _ ⟨oD, kD, HV.out.put 5 (fun _ h => some_eq h)⟩
            · have h3_ : L 3 = true := by simp [hd]
              have c131_ : actZ.tmps[131]?.getD undef = .map (some nb) := (hA.get 3 h3_).trans (HV.out 3 _ rfl h3_)
              have h5_ : L 5 = true := by simp [hd]
              have c133_ : actZ.tmps[133]?.getD undef = .int .i64 k := (hA.get 5 h5_).trans (HV.out 5 _ rfl h5_)
              have u_ := HLK.out _ _ (oD.up 9)
              go_simp
              exact hK.out (.agg #[.int .i64 cr, .int .i64 cl]) _ ⟨oD, kD, HV.out.put 6 (fun _ h => some_eq h)⟩
            · rw [hL] at oD
              go_simp
              exact hK.out _ _ ⟨Pb.new oD, qcalm_alloc kD, HV.out.put 7 (fun _ h => by cases h)⟩
            · have h7_ : L 7 = true := by simp [hd]
              have c15_ := hA.get 7 h7_
              have h6_ : L 6 = true := by simp [hd]
              have c134_ : actZ.tmps[134]?.getD undef = .agg #[.int .i64 cr, .int .i64 cl] := (hA.get 6 h6_).trans (HV.out 6 _ rfl h6_)
              rw [h7_, hL] at oD
              obtain ⟨gN, hgN, oN⟩ := Pb.val oD
              rw [hgN] at c15_
              have hgN := Lib.hid hgN
              have n0_ := oN.cell 0
              have n1_ := oN.cell 1
              have nf_ := oN.frozen
              have nl_ := oN.celLt
              go_simp
              have oY := (oN.setCell 0 (.int .i64 cr)).setCell 1 (.int .i64 cl)
              have oQ := Pb.put (l := L 7) (v := v 7) (zs := [.int .i64 0, .int .i64 0]) oY h7_ hgN.out
              exact hK.out undef _ ⟨oQ, qcalm_set (qcalm_set kD), HV.out.put 8 (fun _ h => by cases h)⟩
          case fin =>
            rintro L v wc hall ⟨oD, kD, hv⟩
            rw [hall 7 (by decide), hall 8 (by decide)] at oD
            obtain ⟨gN, hgN, oN⟩ := Pb.got oD
            clear hv hall oD oM KM
            simp only [putAll, Act.put, List.setIfInBounds_toArray, List.set_cons_zero, List.set_cons_succ]
            have n0 := oN.cell 0
            have n1 := oN.cell 1
            have nf := oN.frozen
            have nl := oN.celLt
            have oP := oN.setCell 0 (.int .i64 (cr + len))
            have p0 := oP.cell 0
            have p1 := oP.cell 1
            have pf := oP.frozen
            have pl := oP.celLt
            have x0 := Own.cell (T := 33) (vs := [.int .i64 k, .int .i64 j, .int .i64 why]) (oP.up 8) 0
            have x1 := Own.cell (T := 33) (vs := [.int .i64 k, .int .i64 j, .int .i64 why]) (oP.up 8) 1
            have KP := qcalm_set (x := ⟨gN, 0, none⟩) (v := .int .i64 (cr + len)) kD
            clear kD b6 bl t0 t1 tl
            by_cases hkj : k = j
            · have hb : (k == j) = true := by simpa using hkj
              have hcN := HCN.out
              rw [if_pos hkj] at hcN
              have HCN := Lib.hid hcN
              clear hkj hcN
              have oQ := oP.setCell 1 (.int .i64 (cl + len))
              have q0 := oQ.cell 0
              have q1 := oQ.cell 1
              have y0 := Own.cell (T := 33) (vs := [.int .i64 k, .int .i64 j, .int .i64 why]) (oQ.up 8) 0
              have y6 := (oQ.up 1).cell 6
              have yl := (oQ.up 1).celLt
              have KQ := qcalm_set (x := ⟨gN, 1, none⟩) (v := .int .i64 (cl + len)) KP
              go_wp2
              refine wp_region_tail 7 (by kernel_rfl) (by kernel_rfl) ?_
              simp only [List.take_succ_cons, List.take_zero, List.drop_succ_cons, List.drop_zero]
              repeat still_step
              refine wpStill_nil ?_
              go_wp2_with (at_mapUpdate; refine wpList_mapUpdate_mpI (f := cntV) rfl _ _ _ rfl Try.underlying72 Try.underlying3 ((oQ.up 9).drew) k (cr + len, cl + len) rfl rfl rfl ?c1)
              case c1 =>
              intro w5 o5 k5
              have K5 := (qcalm_drew KQ).trans k5
              go_wp2
              go_meet
              rw [HCN.out]
              exact ⟨o5.re [1, 4, 10, 2, 3, 0] 3, K5⟩
            · have hb : (k == j) = false := by simpa using hkj
              have hcN := HCN.out
              rw [if_neg hkj] at hcN
              have HCN := Lib.hid hcN
              clear hkj hcN
              have y6 := (oP.up 1).cell 6
              have yl := (oP.up 1).celLt
              go_wp2
              refine wp_region_tail 7 (by kernel_rfl) (by kernel_rfl) ?_
              simp only [List.take_succ_cons, List.take_zero, List.drop_succ_cons, List.drop_zero]
              repeat still_step
              refine wpStill_nil ?_
              go_wp2_with (at_mapUpdate; refine wpList_mapUpdate_mpI (f := cntV) rfl _ _ _ rfl Try.underlying72 Try.underlying3 ((oP.up 9).drew) k (cr + len, cl) rfl rfl rfl ?c1)
              case c1 =>
              intro w5 o5 k5
              have K5 := (qcalm_drew KP).trans k5
              go_wp2
              go_meet
              rw [HCN.out]
              exact ⟨o5.re [1, 4, 10, 2, 3, 0] 3, K5⟩
      case rest =>
        obtain ⟨o14, k14⟩ := hcut
        clear KM oM o13 K13
        have hu : Uniq (cntN Z s.n ⟨k, j, why⟩ len) := by
          unfold cntN bumpC
          split
          · exact hI.nu.mput _ _
          · exact hI.nu
        have hrs := reset_spec hu o14
        clear hu
        go_wp2_with fail
        refine hrs.mono ?_
        rintro e15 w15 ⟨rfl, o15, k15⟩
        clear hrs o14
        have K15 := k14.trans k15
        clear k14 k15
        have x0 := Own.cell (T := 33) (vs := [.int .i64 k, .int .i64 j, .int .i64 why]) (o15.up 7) 0
        have x1 := Own.cell (T := 33) (vs := [.int .i64 k, .int .i64 j, .int .i64 why]) (o15.up 7) 1
        have x2 := Own.cell (T := 33) (vs := [.int .i64 k, .int .i64 j, .int .i64 why]) (o15.up 7) 2
        have z0 := Own.cell (T := 33) (vs := [.int .i64 0, .int .i64 0, .int .i64 0]) (o15.up 8) 0
        have z1 := Own.cell (T := 33) (vs := [.int .i64 0, .int .i64 0, .int .i64 0]) (o15.up 8) 1
        have z2 := Own.cell (T := 33) (vs := [.int .i64 0, .int .i64 0, .int .i64 0]) (o15.up 8) 2
        have zf := Own.frozen (T := 33) (vs := [.int .i64 0, .int .i64 0, .int .i64 0]) (o15.up 8)
        have zl := Own.celLt (T := 33) (vs := [.int .i64 0, .int .i64 0, .int .i64 0]) (o15.up 8)
        have oZ0 := Own.setCell (T := 33) (vs := [.int .i64 0, .int .i64 0, .int .i64 0]) (o15.up 8) 0 (.int .i64 k)
        have oZ1 := Own.setCell (T := 33) (vs := [.int .i64 k, .int .i64 0, .int .i64 0]) oZ0 1 (.int .i64 j)
        have oZ2 := Own.setCell (T := 33) (vs := [.int .i64 k, .int .i64 j, .int .i64 0]) oZ1 2 (.int .i64 why)
        clear oZ0 oZ1
        have KZ := qcalm_set (x := ⟨w.heap.size, 2, none⟩) (v := .int .i64 why) (qcalm_set (x := ⟨w.heap.size, 1, none⟩) (v := .int .i64 j) (qcalm_set (x := ⟨w.heap.size, 0, none⟩) (v := .int .i64 k) K15))
        go_wp2
        refine bodyPost_ret (v := .tuple #[chV ⟨k, j, why⟩, .int .i64 0]) ?_ rfl ?_
        · exact chRow2 (p := w.heap.size) rfl rfl rfl oZ2
        · rw [HST.out]
          have oG := oZ2.re [0, 8] 2
          have oH := oG.re [0, 3, 1, 2, 4, 5, 6]
          unfold nextC
          dsimp only
          rw [HS'.out, HC'.out, HX'.out, HD'.out, HZ.out]
          exact ⟨rfl, CqF.iff.2 ⟨rq, lp, cq, xq, nb, oH⟩, KZ⟩
end
end Go.Proofs.Ytkmlkpfabkhleaa
