/- The heap as plain lists: moving an entry keeps the entries and keeps the map of places true to them. -/
import Derived.Test.YtaphomilgoobiaaHeapOps
namespace Go.Proofs.Ytaphomilgoobiaa

/-- The map tells of each id the place of its entry. -/
structure Cons (es m : List (Int × Int)) : Prop where
  nodup : (es.map (·.1)).Nodup
  place : ∀ id k, mget m id = some k ↔ 0 ≤ k ∧ ∃ x, es[k.toNat]? = some x ∧ x.1 = id
  uniq : Uniq m

theorem Cons.empty : Cons [] [] := ⟨by simp, fun id k => by simp [mget], by simp [Uniq]⟩

theorem Cons.isSome {es m : List (Int × Int)} (h : Cons es m) (id : Int) : (mget m id).isSome = true ↔ id ∈ es.map (·.1) := by
  constructor
  · intro hs
    obtain ⟨k, hk⟩ := Option.isSome_iff_exists.1 hs
    obtain ⟨_, x, hx, rfl⟩ := (h.place id k).1 hk
    exact List.mem_map.2 ⟨x, List.mem_of_getElem? hx, rfl⟩
  · intro hm
    obtain ⟨x, hx, rfl⟩ := List.mem_map.1 hm
    obtain ⟨i, hi⟩ := List.getElem?_of_mem hx
    have := (h.place x.1 (i : Int)).2 ⟨by omega, x, by simpa using hi, rfl⟩
    rw [this]; rfl

theorem Cons.at {es m : List (Int × Int)} (h : Cons es m) {i : Nat} {x : Int × Int} (hx : es[i]? = some x) : mget m x.1 = some (i : Int) :=
  (h.place x.1 i).2 ⟨by omega, x, by simpa using hx, rfl⟩

/-- The hole moves from i to j: what stood at j goes to i. -/
theorem move_perm {es : List (Int × Int)} {i j : Nat} {e x : Int × Int} (hi : i < es.length) (hij : i ≠ j) (hx : es[j]? = some x) : ((es.set i x).set j e).Perm (es.set i e) := by
  have hj : j < es.length := (List.getElem?_eq_some_iff.1 hx).1
  have hxe : es[j] = x := (List.getElem?_eq_some_iff.1 hx).2
  rw [List.perm_iff_count]
  intro a
  have hij' : (es.set i x)[j]'(by simpa using hj) = x := by rw [List.getElem_set_ne hij]; exact hxe
  rw [List.count_set (by simpa using hj), List.count_set hi, List.count_set hi, hij']
  have h1 : (if es[i] == a then 1 else 0) ≤ es.count a := by
    split
    · rename_i h; rw [beq_iff_eq] at h; subst h; exact List.count_pos_iff.2 (List.getElem_mem _)
    · omega
  have h2 : (if es[i] == a then 1 else 0) + (if x == a then 1 else 0) ≤ es.count a ∨ True := .inr trivial
  split <;> split <;> split <;> omega

theorem Cons.move {es m : List (Int × Int)} {i j : Nat} {e x : Int × Int} (hi : i < es.length) (hij : i ≠ j) (hx : es[j]? = some x) (h : Cons (es.set i e) (mput m e.1 i)) :
    Cons ((es.set i x).set j e) (mput (mput m x.1 i) e.1 j) := by
  have hj : j < es.length := (List.getElem?_eq_some_iff.1 hx).1
  have hp := move_perm (e := e) hi hij hx
  have hnd : (((es.set i x).set j e).map (·.1)).Nodup := (hp.map _).nodup_iff.2 h.nodup
  have gi : ((es.set i x).set j e)[i]? = some x := by rw [List.getElem?_set_ne (Ne.symm hij), List.getElem?_set_self hi]
  have gj : ((es.set i x).set j e)[j]? = some e := by rw [List.getElem?_set_self (by simpa using hj)]
  have hne : x.1 ≠ e.1 := by
    intro he
    have h1 : (((es.set i x).set j e).map (·.1))[i]? = some x.1 := by rw [List.getElem?_map, gi]; rfl
    have h2 : (((es.set i x).set j e).map (·.1))[j]? = some x.1 := by rw [List.getElem?_map, gj, he]; rfl
    exact hij (nodup_get hnd h1 h2)
  have hu : Uniq m := by
    have h0 := h.uniq
    unfold Uniq at h0 ⊢
    rw [mput_keys] at h0
    split at h0
    · exact h0
    · exact (List.nodup_append.1 h0).1
  refine ⟨hnd, fun id k => ?_, (hu.mput _ _).mput _ _⟩
  rw [mget_mput, mget_mput]
  by_cases h1 : id = e.1
  · rw [if_pos h1]
    subst h1
    constructor
    · intro hk
      obtain rfl : (j : Int) = k := by simpa using hk
      exact ⟨by omega, e, by simpa using gj, rfl⟩
    · rintro ⟨hk, y, hy, hye⟩
      have h3 : (((es.set i x).set j e).map (·.1))[k.toNat]? = some e.1 := by rw [List.getElem?_map, hy]; simp [hye]
      have h4 : (((es.set i x).set j e).map (·.1))[j]? = some e.1 := by rw [List.getElem?_map, gj]; rfl
      have := nodup_get hnd h3 h4
      congr 1; omega
  · rw [if_neg h1]
    by_cases h2 : id = x.1
    · rw [if_pos h2]
      subst h2
      constructor
      · intro hk
        obtain rfl : (i : Int) = k := by simpa using hk
        exact ⟨by omega, x, by simpa using gi, rfl⟩
      · rintro ⟨hk, y, hy, hye⟩
        have h3 : (((es.set i x).set j e).map (·.1))[k.toNat]? = some x.1 := by rw [List.getElem?_map, hy]; simp [hye]
        have h4 : (((es.set i x).set j e).map (·.1))[i]? = some x.1 := by rw [List.getElem?_map, gi]; rfl
        have := nodup_get hnd h3 h4
        congr 1; omega
    · rw [if_neg h2]
      have h3 := h.place id k
      rw [mget_mput, if_neg h1] at h3
      rw [h3]
      have g3 : ∀ (n : Nat) (y : Int × Int), y.1 = id → (((es.set i x).set j e)[n]? = some y ↔ (es.set i e)[n]? = some y) := by
        intro n y hy
        by_cases hnj : n = j
        · subst hnj
          rw [gj, List.getElem?_set_ne hij, hx]
          constructor
          · intro h; simp at h; subst h; exact absurd hy.symm h1
          · intro h; simp at h; subst h; exact absurd hy.symm h2
        · rw [List.getElem?_set_ne (Ne.symm hnj)]
          by_cases hni : n = i
          · subst hni
            rw [List.getElem?_set_self hi, List.getElem?_set_self hi]
            constructor
            · intro h; simp at h; subst h; exact absurd hy.symm h2
            · intro h; simp at h; subst h; exact absurd hy.symm h1
          · rw [List.getElem?_set_ne (Ne.symm hni), List.getElem?_set_ne (Ne.symm hni)]
      constructor
      · rintro ⟨hk, y, hy, hye⟩; exact ⟨hk, y, (g3 _ y hye).2 hy, hye⟩
      · rintro ⟨hk, y, hy, hye⟩; exact ⟨hk, y, (g3 _ y hye).1 hy, hye⟩

theorem getD_some {es : List (Int × Int)} {j : Nat} {e : Int × Int} (h : j < es.length) : es[j]? = some (es.getD j e) := by
  rw [List.getD_eq_getElem?_getD, List.getElem?_eq_getElem h]; rfl

theorem upF_good (e : Int × Int) : ∀ (f i : Nat) (es m : List (Int × Int)), i < es.length → Cons (es.set i e) (mput m e.1 i) →
    Cons (upF e f i es m).1 (upF e f i es m).2 ∧ (upF e f i es m).1.Perm (es.set i e)
  | 0, i, es, m, _, h => ⟨h, .refl _⟩
  | f + 1, i, es, m, hi, h => by
    unfold upF
    split
    · exact ⟨h, .refl _⟩
    · rename_i h0
      split
      · exact ⟨h, .refl _⟩
      · have hj : (i - 1) / 2 < es.length := by omega
        have hx := getD_some (e := e) hj
        obtain ⟨h1, h2⟩ := upF_good e f ((i - 1) / 2) (es.set i (es.getD ((i - 1) / 2) e)) (mput m (es.getD ((i - 1) / 2) e).1 i) (by simpa using hj) (h.move hi (by omega) hx)
        exact ⟨h1, h2.trans (move_perm hi (by omega) hx)⟩

theorem downF_good (e : Int × Int) : ∀ (f i : Nat) (es m : List (Int × Int)), i < es.length → Cons (es.set i e) (mput m e.1 i) →
    Cons (downF e f i es m).1 (downF e f i es m).2 ∧ (downF e f i es m).1.Perm (es.set i e)
  | 0, i, es, m, _, h => ⟨h, .refl _⟩
  | f + 1, i, es, m, hi, h => by
    unfold downF
    split
    · exact ⟨h, .refl _⟩
    · rename_i h0
      split
      · exact ⟨h, .refl _⟩
      · have hk := kid_range e (i := i) (es := es) (by omega)
        have hx := getD_some (e := e) hk.2
        obtain ⟨h1, h2⟩ := downF_good e f (kid e i es) (es.set i (es.getD (kid e i es) e)) (mput m (es.getD (kid e i es) e).1 i) (by simpa using hk.2) (h.move hi (by omega) hx)
        exact ⟨h1, h2.trans (move_perm hi (by omega) hx)⟩

theorem mput_self {m : List (Int × Int)} {k v : Int} (h : mget m k = some v) : mput m k v = m := by
  induction m with
  | nil => simp [mget] at h
  | cons x m ih =>
    obtain ⟨k0, v0⟩ := x
    unfold mget at h
    unfold mput
    split
    · rename_i hk; subst hk; simp at h; rw [h]
    · rename_i hk; rw [if_neg hk] at h; rw [ih h]

/-- An entry where it belongs. -/
theorem Cons.here {es m : List (Int × Int)} (h : Cons es m) {i : Nat} {e : Int × Int} (he : es[i]? = some e) : Cons (es.set i e) (mput m e.1 i) := by
  rw [set_self he, mput_self (h.at he)]; exact h

theorem Cons.append {es m : List (Int × Int)} (h : Cons es m) {e : Int × Int} (he : e.1 ∉ es.map (·.1)) : Cons ((es ++ [e]).set es.length e) (mput m e.1 es.length) := by
  have e1 : (es ++ [e]).set es.length e = es ++ [e] := set_self (by simp)
  rw [e1]
  refine ⟨?_, fun id k => ?_, h.uniq.mput _ _⟩
  · rw [List.map_append, List.nodup_append]
    refine ⟨h.nodup, by simp, ?_⟩
    intro a ha b hb
    simp at hb; subst hb
    exact fun e => he (e ▸ ha)
  · rw [mget_mput]
    by_cases h1 : id = e.1
    · rw [if_pos h1]; subst h1
      constructor
      · intro hk
        obtain rfl : (es.length : Int) = k := by simpa using hk
        exact ⟨by omega, e, by simp, rfl⟩
      · rintro ⟨hk, y, hy, hye⟩
        by_cases hl : k.toNat < es.length
        · rw [List.getElem?_append_left hl] at hy
          exact absurd (List.mem_map.2 ⟨y, List.mem_of_getElem? hy, hye⟩) he
        · have := (List.getElem?_eq_some_iff.1 hy).1
          simp at this
          congr 1; omega
    · rw [if_neg h1, h.place]
      constructor
      · rintro ⟨hk, y, hy, hye⟩
        exact ⟨hk, y, by rw [List.getElem?_append_left (List.getElem?_eq_some_iff.1 hy).1]; exact hy, hye⟩
      · rintro ⟨hk, y, hy, hye⟩
        by_cases hl : k.toNat < es.length
        · exact ⟨hk, y, by rwa [List.getElem?_append_left hl] at hy, hye⟩
        · have h2 := (List.getElem?_eq_some_iff.1 hy).1
          simp at h2
          have h3 : k.toNat = es.length := by omega
          rw [h3] at hy
          simp at hy
          subst hy
          exact absurd hye.symm h1

/-- The last entry goes, its id is forgotten. -/
theorem Cons.last {es m : List (Int × Int)} {e : Int × Int} (h : Cons (es ++ [e]) m) : Cons es (mdel m e.1) := by
  have hn := h.nodup
  rw [List.map_append, List.nodup_append] at hn
  refine ⟨hn.1, fun id k => ?_, h.uniq.mdel _⟩
  rw [mget_mdel h.uniq]
  by_cases h1 : id = e.1
  · rw [if_pos h1]
    constructor
    · intro h; cases h
    · rintro ⟨hk, y, hy, hye⟩
      exact absurd (hye.trans h1) (hn.2.2 y.1 (List.mem_map.2 ⟨y, List.mem_of_getElem? hy, rfl⟩) e.1 (by simp))
  · rw [if_neg h1, h.place]
    constructor
    · rintro ⟨hk, y, hy, hye⟩
      by_cases hl : k.toNat < es.length
      · exact ⟨hk, y, by rwa [List.getElem?_append_left hl] at hy, hye⟩
      · have h2 := (List.getElem?_eq_some_iff.1 hy).1
        simp at h2
        have h3 : k.toNat = es.length := by omega
        rw [h3] at hy
        simp at hy
        subst hy
        exact absurd hye.symm h1
    · rintro ⟨hk, y, hy, hye⟩
      exact ⟨hk, y, by rw [List.getElem?_append_left (List.getElem?_eq_some_iff.1 hy).1]; exact hy, hye⟩

/-- An entry goes, the last one takes its place. -/
theorem Cons.fill {es m : List (Int × Int)} {e l : Int × Int} {i : Nat} (he : es[i]? = some e) (h : Cons (es ++ [l]) m) : Cons (es.set i l) (mput (mdel m e.1) l.1 i) := by
  have hi : i < es.length := (List.getElem?_eq_some_iff.1 he).1
  have hn := h.nodup
  rw [List.map_append, List.nodup_append] at hn
  have hel : e.1 ≠ l.1 := hn.2.2 e.1 (List.mem_map.2 ⟨e, List.mem_of_getElem? he, rfl⟩) l.1 (by simp)
  have hmap : (es.set i l).map (·.1) = (es.map (·.1)).set i l.1 := by rw [List.map_set]
  have hnd : ((es.set i l).map (·.1)).Nodup := by
    rw [hmap, nodup_iff_get]
    intro a b hab hb
    simp only [List.length_set, List.length_map] at hb
    rw [List.getElem?_set, List.getElem?_set]
    have key : ∀ c, c < es.length → (es.map (·.1))[c]? ≠ some l.1 := by
      intro c hc hcc
      exact hn.2.2 l.1 (List.mem_of_getElem? hcc) l.1 (by simp) rfl
    have hla : (es.map (·.1)).length = es.length := by simp
    by_cases h1 : i = a
    · subst h1
      rw [if_pos rfl, if_pos (by omega), if_neg (by omega)]
      exact fun h => key b hb h.symm
    · rw [if_neg h1]
      by_cases h2 : i = b
      · subst h2
        rw [if_pos rfl, if_pos (by omega)]
        exact key a (by omega)
      · rw [if_neg h2]
        exact (nodup_iff_get.1 hn.1) a b hab (by simpa using hb)
  have gi : (es.set i l)[i]? = some l := List.getElem?_set_self hi
  refine ⟨hnd, fun id k => ?_, (h.uniq.mdel _).mput _ _⟩
  rw [mget_mput, mget_mdel h.uniq]
  by_cases h1 : id = l.1
  · rw [if_pos h1]; subst h1
    constructor
    · intro hk
      obtain rfl : (i : Int) = k := by simpa using hk
      exact ⟨by omega, l, by simpa using gi, rfl⟩
    · rintro ⟨hk, y, hy, hye⟩
      have h3 : ((es.set i l).map (·.1))[k.toNat]? = some l.1 := by rw [List.getElem?_map, hy]; simp [hye]
      have h4 : ((es.set i l).map (·.1))[i]? = some l.1 := by rw [List.getElem?_map, gi]; rfl
      have := nodup_get hnd h3 h4
      congr 1; omega
  · rw [if_neg h1]
    by_cases h2 : id = e.1
    · rw [if_pos h2]; subst h2
      constructor
      · intro h; cases h
      · rintro ⟨hk, y, hy, hye⟩
        by_cases hki : k.toNat = i
        · rw [hki, gi] at hy
          simp at hy; subst hy
          exact absurd hye.symm hel
        · rw [List.getElem?_set_ne (Ne.symm hki)] at hy
          have h3 : (es.map (·.1))[k.toNat]? = some e.1 := by rw [List.getElem?_map, hy]; simp [hye]
          have h4 : (es.map (·.1))[i]? = some e.1 := by rw [List.getElem?_map, he]; rfl
          exact absurd (nodup_get hn.1 h3 h4) hki
    · rw [if_neg h2, h.place]
      constructor
      · rintro ⟨hk, y, hy, hye⟩
        by_cases hl : k.toNat < es.length
        · rw [List.getElem?_append_left hl] at hy
          by_cases hki : k.toNat = i
          · rw [hki, he] at hy
            simp at hy; subst hy
            exact absurd hye.symm h2
          · exact ⟨hk, y, by rw [List.getElem?_set_ne (Ne.symm hki)]; exact hy, hye⟩
        · have h3 := (List.getElem?_eq_some_iff.1 hy).1
          simp at h3
          have h4 : k.toNat = es.length := by omega
          rw [h4] at hy
          simp at hy
          subst hy
          exact absurd hye.symm h1
      · rintro ⟨hk, y, hy, hye⟩
        by_cases hki : k.toNat = i
        · rw [hki, gi] at hy
          simp at hy; subst hy
          exact absurd hye.symm h1
        · rw [List.getElem?_set_ne (Ne.symm hki)] at hy
          exact ⟨hk, y, by rw [List.getElem?_append_left (List.getElem?_eq_some_iff.1 hy).1]; exact hy, hye⟩

/-- A key alone changes. -/
theorem Cons.rekey {es m : List (Int × Int)} (h : Cons es m) {i : Nat} {e : Int × Int} (he : es[i]? = some e) (key : Int) : Cons (es.set i (e.1, key)) m := by
  have hi : i < es.length := (List.getElem?_eq_some_iff.1 he).1
  have hmap : (es.set i (e.1, key)).map (·.1) = es.map (·.1) := by
    rw [List.map_set]; exact set_self (by rw [List.getElem?_map, he]; rfl)
  refine ⟨by rw [hmap]; exact h.nodup, fun id k => ?_, h.uniq⟩
  rw [h.place]
  have e1 : ∀ l : List (Int × Int), (∃ x, l[k.toNat]? = some x ∧ x.1 = id) ↔ (l.map (·.1))[k.toNat]? = some id := by
    intro l; rw [List.getElem?_map]; cases l[k.toNat]? <;> simp
  rw [e1, e1, hmap]

theorem Cons.find {es m : List (Int × Int)} (h : Cons es m) {e : Int × Int} (he : e ∈ es) : ∃ k : Nat, mget m e.1 = some (k : Int) ∧ es[k]? = some e := by
  obtain ⟨k, hk⟩ := List.getElem?_of_mem he
  exact ⟨k, h.at hk, hk⟩

theorem last_split {α : Type} {es : List α} (h : 0 < es.length) : ∃ es' l, es = es' ++ [l] :=
  ⟨es.dropLast, es.getLast (List.ne_nil_of_length_pos h), (List.dropLast_concat_getLast _).symm⟩

end Go.Proofs.Ytaphomilgoobiaa
