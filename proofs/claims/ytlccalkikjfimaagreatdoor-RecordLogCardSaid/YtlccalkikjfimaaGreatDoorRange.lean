/- Ranging over a map with int keys while its own entries are stored anew. -/
import Derived.Test.YtlccalkikjfimaaGreatDoorCom
import Derived.Maps.RangeRun
import Derived.Maps.RangeWalk
namespace Go.Proofs.YtlccalkikjfimaaGreatDoor
open Go.RowKit
open SP

section
variable {α : Type} {f : α → Value} {w w' : World} {R : List SP} {tb ib : Nat} {m : List (Int × α)} {S : Int → Bool} {cur : Option Int}

/-- Block tb is a map that holds m; block ib ranges over it: the keys of S have come, the last of them was 'cur'. -/
def SP.rng (f : α → Value) (tb ib : Nat) (m : List (Int × α)) (S : Int → Bool) (cur : Option Int) : SP := ex fun (p : Array MapEntry × Nat × Array Nat) =>
  st [pu (p.1.toList.map (fun e => (e.key, e.val)) = m.map (fun x => (Value.int .i64 x.1, f x.2)) ∧ p.1.toList.Pairwise (fun x y => x.born < y.born) ∧ (∀ e ∈ p.1.toList, e.born < p.2.1) ∧
    (∀ (i : Nat) (e : MapEntry) (x : Int × α), p.1.toList[i]? = some e → m[i]? = some x → (p.2.2.contains e.born = S x.1)) ∧
    (∀ k, cur = some k → ∃ (i : Nat) (e : MapEntry) (x : Int × α), p.1.toList[i]? = some e ∧ m[i]? = some x ∧ x.1 = k ∧ p.2.2.back? = some e.born)),
    blk tb (.map p.1 p.2.1), blk ib (.mapIter (some tb) p.2.1 p.2.2 p.2.1)]

theorem Own.rng : Own w (SP.rng f tb ib m S cur :: R) ↔ ∃ (es : Array MapEntry) (clock : Nat) (seen : Array Nat),
    es.toList.map (fun e => (e.key, e.val)) = m.map (fun x => (Value.int .i64 x.1, f x.2)) ∧ es.toList.Pairwise (fun x y => x.born < y.born) ∧ (∀ e ∈ es.toList, e.born < clock) ∧
    (∀ (i : Nat) (e : MapEntry) (x : Int × α), es.toList[i]? = some e → m[i]? = some x → (seen.contains e.born = S x.1)) ∧
    (∀ k, cur = some k → ∃ (i : Nat) (e : MapEntry) (x : Int × α), es.toList[i]? = some e ∧ m[i]? = some x ∧ x.1 = k ∧ seen.back? = some e.born) ∧
    Own w (SP.blk tb (.map es clock) :: SP.blk ib (.mapIter (some tb) clock seen clock) :: R) := by
  constructor
  · intro o
    obtain ⟨⟨es, clock, seen⟩, o⟩ := Own.ex.1 o
    obtain ⟨⟨h1, h2, h3, h4, h5⟩, o⟩ := Own.pu.1 (Own.st.1 o)
    exact ⟨es, clock, seen, h1, h2, h3, h4, h5, o⟩
  · rintro ⟨es, clock, seen, h1, h2, h3, h4, h5, o⟩
    exact Own.ex.2 ⟨(es, clock, seen), Own.st.2 (Own.pu.2 ⟨⟨h1, h2, h3, h4, h5⟩, o⟩)⟩

variable {P : Program} {t kt et : TypeId}

theorem run_range_mpI (ht : P.underlying t = some (.map kt et)) (o : Own w (SP.mpI f tb m :: R)) :
    ∃ w', (Instr.range t (.map (some tb))).run P w = .ok (.pointer (some ⟨w.heap.size, 0, none⟩)) w' ∧ Own w' (SP.rng f tb w.heap.size m (fun _ => false) none :: R) ∧ Calm w w' := by
  obtain ⟨es, clock, h1, h2, h3, o⟩ := Own.mpI.1 o
  have hb := o.blk
  refine ⟨w.alloc (.mapIter (some tb) clock #[] clock), ?_, Own.rng.2 ⟨es, clock, #[], h1, h2, h3, fun _ _ _ _ _ => by simp, (fun k h => by cases h), (o.alloc _).swap⟩, ⟨rfl, rfl, rfl⟩⟩
  simp [Instr.range, run_underlying ht, getObj, newObj, Sem.run, hb]

/-- The range is over. -/
theorem Own.rng_done (o : Own w (SP.rng f tb ib m S cur :: R)) : Own w (SP.mpI f tb m :: R) := by
  obtain ⟨es, clock, seen, h1, h2, h3, _, _, o⟩ := Own.rng.1 o
  exact Own.mpI.2 ⟨es, clock, h1, h2, h3, o.swap.drop⟩

theorem lists_get {es : List MapEntry} {m : List (Int × α)} (h : es.map (fun e => (e.key, e.val)) = m.map (fun x => (Value.int .i64 x.1, f x.2))) {i : Nat} {e : MapEntry} (he : es[i]? = some e) :
    ∃ x, m[i]? = some x ∧ e.key = .int .i64 x.1 ∧ e.val = f x.2 := by
  have h1 : (es.map (fun e => (e.key, e.val)))[i]? = some (e.key, e.val) := by rw [List.getElem?_map, he]; rfl
  rw [h, List.getElem?_map, Option.map_eq_some_iff] at h1
  obtain ⟨x, hx, hxe⟩ := h1
  simp only [Prod.mk.injEq] at hxe
  exact ⟨x, hx, hxe.1.symm, hxe.2.symm⟩

theorem lists_get' {es : List MapEntry} {m : List (Int × α)} (h : es.map (fun e => (e.key, e.val)) = m.map (fun x => (Value.int .i64 x.1, f x.2))) {i : Nat} {x : Int × α} (hx : m[i]? = some x) :
    ∃ e, es[i]? = some e ∧ e.key = .int .i64 x.1 ∧ e.val = f x.2 := by
  have h1 : (m.map (fun x => (Value.int .i64 x.1, f x.2)))[i]? = some (.int .i64 x.1, f x.2) := by rw [List.getElem?_map, hx]; rfl
  rw [← h, List.getElem?_map, Option.map_eq_some_iff] at h1
  obtain ⟨e, he, hxe⟩ := h1
  simp only [Prod.mk.injEq] at hxe
  exact ⟨e, he, hxe.1, hxe.2⟩

theorem born_inj {es : List MapEntry} (h : es.Pairwise (fun x y => x.born < y.born)) {i j : Nat} {x y : MapEntry} (hi : es[i]? = some x) (hj : es[j]? = some y) (hb : x.born = y.born) : i = j := by
  rw [List.pairwise_iff_getElem] at h
  obtain ⟨hi1, hi2⟩ := List.getElem?_eq_some_iff.1 hi
  obtain ⟨hj1, hj2⟩ := List.getElem?_eq_some_iff.1 hj
  rcases Nat.lt_trichotomy i j with hlt | rfl | hlt
  · have := h i j hi1 hj1 hlt; rw [hi2, hj2] at this; omega
  · rfl
  · have := h j i hj1 hi1 hlt; rw [hi2, hj2] at this; omega

/-- The next entry: none is left, or some entry that has not come. -/
theorem run_next_rng (ty : TypeId) (hu : Uniq m) (o : Own w (SP.rng f tb ib m S cur :: R)) :
    ((∀ x ∈ m, S x.1 = true) ∧ (Instr.next (.pointer (some ⟨ib, 0, none⟩)) false ty).run P w = .ok (.tuple #[.bool false]) w) ∨
    ∃ (x : Int × α) (w' : World), x ∈ m ∧ S x.1 = false ∧ (Instr.next (.pointer (some ⟨ib, 0, none⟩)) false ty).run P w = .ok (.tuple #[.bool true, .int .i64 x.1, f x.2]) w' ∧
      Own w' (SP.rng f tb ib m (fun k => S k || k == x.1) (some x.1) :: R) ∧ Calm w w' := by
  obtain ⟨es, clock, seen, h1, h2, h3, h4, h5, o⟩ := Own.rng.1 o
  have hb := o.blk
  have hi := o.swap.blk
  have hmem : ∀ (i : Nat) (e : MapEntry), es.toList[i]? = some e → e ∈ es.toList := fun i e h => List.mem_of_getElem? h
  rcases run_next_at (P := P) w ty ib tb clock clock seen es clock hi hb h3 (Nat.le_refl _) with ⟨h6, h7⟩ | ⟨e, he, w1, h6, h7⟩
  · left
    refine ⟨fun x hx => ?_, h7⟩
    obtain ⟨i, hix⟩ := List.getElem?_of_mem hx
    obtain ⟨e, he, _⟩ := lists_get' h1 hix
    rw [← h4 i e x he hix]
    cases hc : seen.contains e.born with
    | true => rfl
    | false =>
      have hin : e ∈ (leftOf es seen) := by
        unfold leftOf
        rw [Array.mem_filter]
        exact ⟨by simpa using hmem i e he, by rw [hc]; rfl⟩
      have := Array.size_pos_of_mem hin
      omega
  · right
    obtain ⟨he1, he2⟩ := mem_left he
    obtain ⟨i, hie⟩ := List.getElem?_of_mem he1
    obtain ⟨x, hx, hk, hv⟩ := lists_get h1 hie
    refine ⟨x, _, List.mem_of_getElem? hx, by rw [← h4 i e x hie hx]; exact he2, by rw [hk, hv] at h7; exact h7, ?_, ?_⟩
    · have o1 : Own w1 (SP.blk tb (.map es clock) :: SP.blk ib (.mapIter (some tb) clock seen clock) :: R) := by
        rcases h6 with rfl | rfl
        · exact o
        · exact o.drew
      refine Own.rng.2 ⟨es, clock, seen.push e.born, h1, h2, h3, ?_, ?_, ?_⟩
      · intro i' e' x' he' hx'
        rw [contains_push, h4 i' e' x' he' hx']
        congr 1
        have hiff : e'.born = e.born ↔ x'.1 = x.1 := by
          constructor
          · intro hb'
            have := born_inj h2 he' hie hb'
            subst this
            rw [hx] at hx'; cases hx'; rfl
          · intro hxx
            have h8 : (m.map (·.1))[i']? = some x.1 := by rw [List.getElem?_map, hx']; simp [hxx]
            have h9 : (m.map (·.1))[i]? = some x.1 := by rw [List.getElem?_map, hx]; rfl
            have := nodup_get hu h8 h9
            subst this
            rw [hie] at he'; cases he'; rfl
        rw [Bool.eq_iff_iff]; simpa using hiff
      · intro k hk'
        cases hk'
        exact ⟨i, e, x, hie, hx, rfl, by simp⟩
      · have o2 := o1.swap
        exact (Own.setMap o2 _).swap
    · rcases h6 with rfl | rfl <;> exact ⟨rfl, rfl, rfl⟩

/-- The round's key and value, read again. -/
theorem run_entry_rng {k : Int} (hu : Uniq m) (o : Own w (SP.rng f tb ib m S (some k) :: R)) {v : α} (hm : mget m k = some v) :
    (Instr.entry (.pointer (some ⟨ib, 0, none⟩))).run P w = .ok (.tuple #[.int .i64 k, f v]) w := by
  obtain ⟨es, clock, seen, h1, h2, h3, h4, h5, o⟩ := Own.rng.1 o
  obtain ⟨i, e, x, he, hx, rfl, hback⟩ := h5 k rfl
  obtain ⟨s', hs⟩ : ∃ s' : Array Nat, seen = s'.push e.born := Array.back?_eq_some_iff.1 hback
  subst hs
  obtain ⟨x', hx', hk, hv⟩ := lists_get h1 he
  rw [hx] at hx'; cases hx'
  have hn : (es.toList.map (·.born)).Nodup := by rw [List.Nodup, List.pairwise_map]; exact h2.imp (fun h => Nat.ne_of_lt h)
  have hr := run_entry_at (P := P) w ib tb clock s' es clock e o.swap.blk o.blk (List.mem_of_getElem? he) hn
  rw [hk, hv] at hr
  have hvx : mget m x.1 = some x.2 := mget_at hu hx
  rw [hvx] at hm
  cases hm
  exact hr

/-- An entry of the ranged map is stored anew. -/
theorem run_update_rng (ht : P.underlying t = some (.map kt et)) (hk : P.underlying kt = some (.int .i64)) (_ : Uniq m) (o : Own w (SP.rng f tb ib m S cur :: R)) (k : Int) (v : α) (hin : (mget m k).isSome = true) :
    ∃ w', (Instr.mapUpdate t (.map (some tb)) (.int .i64 k) (f v)).run P w = .ok () w' ∧ Own w' (SP.rng f tb ib (mput m k v) S cur :: R) ∧ Calm w w' := by
  obtain ⟨es, clock, seen, h1, h2, h3, h4, h5, o⟩ := Own.rng.1 o
  have hb := o.blk
  have hm := midx_mget m k
  have hf := run_findKey_int (P := P) hk h1 k w
  obtain ⟨x, hmg⟩ := Option.isSome_iff_exists.1 hin
  obtain ⟨i, hmi⟩ : ∃ i, midx m k = some i := by rw [hin] at hm; exact Option.isSome_iff_exists.1 hm
  obtain ⟨h6, e0, h7, h8⟩ := mput_lists (f := f) k v es.toList m i h1 hmi
  have h7' : es[i]? = some e0 := by simpa using h7
  simp [hmi, hmg] at hf
  have hborn : ∀ (j : Nat) (e : MapEntry), (es.toList.modify i fun e => { e with key := .int .i64 k, val := f v })[j]? = some e → ∃ e', es.toList[j]? = some e' ∧ e'.born = e.born := by
    intro j e he
    rw [List.getElem?_modify] at he
    cases hx : es.toList[j]? with
    | none => rw [hx] at he; cases he
    | some y =>
      rw [hx] at he
      refine ⟨y, rfl, ?_⟩
      simp at he
      split at he <;> subst he <;> rfl
  have hborn' : ∀ (j : Nat) (e : MapEntry), es.toList[j]? = some e → ∃ e', (es.toList.modify i fun e => { e with key := .int .i64 k, val := f v })[j]? = some e' ∧ e'.born = e.born := by
    intro j e he
    rw [List.getElem?_modify, he]
    simp only [Option.map_eq_map, Option.map_some, Option.some.injEq, exists_eq_left']
    split <;> rfl
  have hkeys : (mput m k v).map (·.1) = m.map (·.1) := by
    rw [mput_keys, if_pos]
    exact Classical.byContradiction fun h => by rw [mget_none.2 h] at hmg; cases hmg
  have hkeyat : ∀ (j : Nat) (y : Int × α), (mput m k v)[j]? = some y → ∃ y', m[j]? = some y' ∧ y'.1 = y.1 := by
    intro j y hy
    have h9 : ((mput m k v).map (·.1))[j]? = some y.1 := by rw [List.getElem?_map, hy]; rfl
    rw [hkeys, List.getElem?_map, Option.map_eq_some_iff] at h9
    exact h9
  have hkeyat' : ∀ (j : Nat) (y : Int × α), m[j]? = some y → ∃ y', (mput m k v)[j]? = some y' ∧ y'.1 = y.1 := by
    intro j y hy
    have h9 : (m.map (·.1))[j]? = some y.1 := by rw [List.getElem?_map, hy]; rfl
    rw [← hkeys, List.getElem?_map, Option.map_eq_some_iff] at h9
    exact h9
  refine ⟨_, ?_, Own.rng.2 ⟨es.modify i fun e => { e with key := .int .i64 k, val := f v }, clock, seen, ?_, ?_, ?_, ?_, ?_, o.setMap _⟩, ⟨rfl, rfl, rfl⟩⟩
  · simp [Instr.mapUpdate, run_underlying ht, getObj, setObj, Sem.run, hb, run_checkKey_int hk, hf, h7', h8, Instr.keyThatStays, Instr.sameBits]
  · rw [Array.toList_modify]; exact h6
  · rw [Array.toList_modify]; exact pairwise_modify (fun e => { e with key := .int .i64 k, val := f v }) (fun _ => rfl) i h2
  · rw [Array.toList_modify]; exact mem_modify_born (fun e => { e with key := .int .i64 k, val := f v }) (fun _ => rfl) i h3
  · rw [Array.toList_modify]
    intro j e y he hy
    obtain ⟨e', he', hbe⟩ := hborn j e he
    obtain ⟨y', hy', hye⟩ := hkeyat j y hy
    rw [← hbe, ← hye]; exact h4 j e' y' he' hy'
  · rw [Array.toList_modify]
    intro k' hk'
    obtain ⟨j, e, y, he, hy, hyk, hbk⟩ := h5 k' hk'
    obtain ⟨e', he', hbe⟩ := hborn' j e he
    obtain ⟨y', hy', hye⟩ := hkeyat' j y hy
    exact ⟨j, e', y', he', hy', by rw [hye]; exact hyk, by rw [hbe]; exact hbk⟩

theorem wpList_mapUpdate_rng {ops : Array Oper} {rest : List Oper} {op : Oper} {A : Act} {Q : Exit → Act → World → Prop} (hgd : op.guard = none) (x y v : Operand) (hop : op.op = Op.mapUpdate t x y v)
    (ht : P.underlying t = some (.map kt et)) (hk : P.underlying kt = some (.int .i64)) (hu : Uniq m) (o : Own w (SP.rng f tb ib m S cur :: R)) (k : Int) (u : α) (hin : (mget m k).isSome = true)
    (hx : A.eval x = .map (some tb)) (hy : A.eval y = .int .i64 k) (hv : A.eval v = f u)
    (h : ∀ w', Own w' (SP.rng f tb ib (mput m k u) S cur :: R) → Calm w w' → wpList P ops Q rest (A.put op.dst undef) w') : wpList P ops Q (op :: rest) A w := by
  refine wpList_plain hgd fun K hK => ?_
  obtain ⟨w', hr, h2, h3⟩ := run_update_rng ht hk hu o k u hin
  unfold Oper.wp
  simp [execOp, hop, hx, hy, hv, hr, Result.andThen]
  exact hK _ _ (h w' h2 h3)

/-- How many entries are to come. -/
def rleft (w : World) (tb ib : Nat) : Nat := match w.heap[tb]?, w.heap[ib]? with
  | some (.map es _), some (.mapIter _ _ seen _) => (leftOf es seen).size
  | _, _ => 0
def kleft (m : List (Int × α)) (S : Int → Bool) : Nat := ((m.map (·.1)).filter (fun k => !S k)).length

theorem filter_len (seen : Array Nat) (S : Int → Bool) : ∀ (es : List MapEntry) (m : List (Int × α)), es.length = m.length → (∀ (i : Nat) (e : MapEntry) (x : Int × α), es[i]? = some e → m[i]? = some x → (seen.contains e.born = S x.1)) →
    (es.filter (fun e => !seen.contains e.born)).length = ((m.map (·.1)).filter (fun k => !S k)).length
  | [], [], _, _ => rfl
  | [], _ :: _, h, _ => by simp at h
  | _ :: _, [], h, _ => by simp at h
  | e :: es, x :: m, h, hp => by
    have h0 := hp 0 e x rfl rfl
    have ih := filter_len seen S es m (by simpa using h) (fun i e' x' h1 h2 => hp (i + 1) e' x' (by simpa using h1) (by simpa using h2))
    rw [List.map_cons, List.filter_cons, List.filter_cons]
    rw [h0]
    cases S x.1
    · simp only [Bool.not_false, if_true, List.length_cons]
      rw [ih]
    · simpa using ih

theorem Own.rleft (o : Own w (SP.rng f tb ib m S cur :: R)) : rleft w tb ib = kleft m S := by
  obtain ⟨es, clock, seen, h1, h2, h3, h4, h5, o⟩ := Own.rng.1 o
  have hb := o.blk
  have hi := o.swap.blk
  unfold Go.Proofs.YtlccalkikjfimaaGreatDoor.rleft
  rw [hb, hi]
  have hl : es.toList.length = m.length := by have := congrArg List.length h1; simpa using this
  have := filter_len seen S es.toList m hl h4
  unfold kleft
  rw [← this]
  simp only [leftOf]
  rw [← Array.length_toList, Array.toList_filter]

theorem filter_lt {l : List Int} {p q : Int → Bool} (h : ∀ x, q x = true → p x = true) {k : Int} (hk : k ∈ l) (h1 : p k = true) (h2 : q k = false) : (l.filter q).length < (l.filter p).length := by
  induction l with
  | nil => simp at hk
  | cons y l ih =>
    have hle : (l.filter q).length ≤ (l.filter p).length := by
      clear ih hk
      induction l with
      | nil => simp
      | cons z l ih =>
        simp only [List.filter_cons]
        cases hq : q z
        · cases hp : p z <;> simp <;> omega
        · rw [h z hq]; simpa using ih
    simp only [List.filter_cons]
    rcases List.mem_cons.1 hk with rfl | hk
    · rw [h1, h2]; simp; omega
    · have := ih hk
      cases hq : q y
      · cases hp : p y <;> simp <;> omega
      · rw [h y hq]; simpa using this

theorem kleft_lt {x : Int × α} (hx : x ∈ m) (hS : S x.1 = false) : kleft m (fun k => S k || k == x.1) < kleft m S := by
  unfold kleft
  refine filter_lt (k := x.1) ?_ (List.mem_map.2 ⟨x, hx, rfl⟩) (by simp [hS]) (by simp)
  intro y hy
  simp at hy
  simp [hy.1]

theorem kleft_mput {k : Int} {v : α} (hk : k ∈ m.map (·.1)) : kleft (mput m k v) S = kleft m S := by
  unfold kleft
  rw [mput_keys, if_pos hk]
end
end Go.Proofs.YtlccalkikjfimaaGreatDoor
