/- Texts that the law rests on, put together by a program. -/
import Derived.Test.YtkmlkpfabkhleaaIwfqGoodA
import Derived.WideKeyEntry
import Derived.Maps.RangeRun
import Derived.Maps.RangeWalk
import Derived.Maps.OwnSet
import Derived.Lib.MinMax
import Derived.Deep.DeepCutAuto
import Derived.Deep.RegionHeld3
/- Assignments to entries of a map that are there: mapEntry and entryStore. -/
namespace Go.Proofs.Ytkmlkpfabkhleaa
open Go.RowKit
open SP
section
variable {α : Type} {f : α → Value} {w w' : World} {l : List SP} {b : Nat} {m : List (Int × α)} {P : Program} {t kt et : TypeId}

/-- The stamp of key k's entry. -/
def BornAt (m : List (Int × α)) (w : World) (b : Nat) (k : Int) (born : Nat) : Prop :=
  ∃ es clock i e, w.heap[b]? = some (.map es clock) ∧ midx m k = some i ∧ es[i]? = some e ∧ e.born = born

theorem run_mapEntry_mpI (ht : P.underlying t = some (.map kt et)) (hk : P.underlying kt = some (.int .i64)) (o : Own w (mpI f b m :: l)) (k : Int) {u : α} (hu : mget m k = some u) :
    ∃ (w' : World) (born : Nat), (Instr.mapEntry t (.map (some b)) (.int .i64 k)).run P w = .ok (.tuple #[f u, .int .i64 (born : Int)]) w' ∧ BornAt m w' b k born ∧ Own w' (mpI f b m :: l) ∧ Calm w w' := by
  obtain ⟨es, clock, h1, h2, h3, o⟩ := Own.mpI.1 o
  have hb := o.blk
  have hm := midx_mget m k
  have hf := run_findKey_int (P := P) hk h1 k w
  rw [hu] at hm
  obtain ⟨i, hmi⟩ : ∃ i, midx m k = some i := Option.isSome_iff_exists.1 (by simpa using hm)
  obtain ⟨h4, e0, h5, h6⟩ := mput_lists (f := f) k u es.toList m i h1 hmi
  have h5' : es[i]? = some e0 := by simpa using h5
  simp [hmi, hu] at hf
  have hsame : (es.modify i fun e => { e with key := .int .i64 k }) = es := by
    apply Array.ext'
    rw [Array.toList_modify]
    refine List.ext_getElem? fun j => ?_
    rw [List.getElem?_modify]
    by_cases hj : i = j
    · subst hj
      rw [h5]
      obtain ⟨ek, ev, eb⟩ := e0
      simp only at h6
      subst h6
      simp
    · simp only [if_neg hj]
      cases es.toList[j]? <;> rfl
  refine ⟨{ w with heap := w.heap.setIfInBounds b (.map es clock) }, e0.born, ?_, ⟨es, clock, i, e0, (o.setMap (.map es clock)).blk, hmi, h5', rfl⟩, Own.mpI.2 ⟨es, clock, h1, h2, h3, o.setMap _⟩, ⟨rfl, rfl, rfl⟩⟩
  · simp [Instr.mapEntry, run_underlying ht, getObj, setObj, Sem.run, hb, run_checkKey_int hk, hf, h5', h6, Instr.keyThatStays, Instr.sameBits, hsame, goInt]

theorem run_entryStore_mpI (o : Own w (mpI f b m :: l)) (k : Int) (v : α) {born : Nat} (hB : BornAt m w b k born) :
    ∃ w', (Instr.entryStore t (.map (some b)) (.int .i64 (born : Int)) (f v)).run P w = .ok () w' ∧ Own w' (mpI f b (mput m k v) :: l) ∧ Calm w w' := by
  obtain ⟨es, clock, h1, h2, h3, o⟩ := Own.mpI.1 o
  have hb := o.blk
  obtain ⟨es', clock', i, e, hb', hmi, he, hborn⟩ := hB
  rw [hb] at hb'
  simp only [Option.some.injEq, Obj.map.injEq] at hb'
  obtain ⟨rfl, rfl⟩ := hb'
  obtain ⟨h4, e0, h5, h6⟩ := mput_lists (f := f) k v es.toList m i h1 hmi
  have h5' : es[i]? = some e0 := by simpa using h5
  rw [h5'] at he
  simp only [Option.some.injEq] at he
  subst he
  have hnd : (es.toList.map (·.born)).Nodup := by
    rw [List.Nodup, List.pairwise_map]
    exact h2.imp fun h => by omega
  have hfi : es.findIdx? (fun x => ((x.born : Nat) : Int) == ((e0.born : Nat) : Int)) = some i := by
    rw [Go.WideElems.findIdx_arr]; exact Go.WideElems.findIdx_born hnd h5
  have hsame : (es.modify i fun e => { e with val := f v }) = es.modify i fun e => { e with key := .int .i64 k, val := f v } := by
    apply Array.ext'
    rw [Array.toList_modify, Array.toList_modify]
    refine List.ext_getElem? fun j => ?_
    rw [List.getElem?_modify, List.getElem?_modify]
    by_cases hj : i = j
    · subst hj
      rw [h5]
      obtain ⟨ek, ev, eb⟩ := e0
      simp only at h6
      subst h6
      simp
    · simp only [if_neg hj]
  refine ⟨_, ?_, Own.mpI.2 ⟨es.modify i fun e => { e with key := .int .i64 k, val := f v }, clock, ?_, ?_, ?_, o.setMap _⟩, ⟨rfl, rfl, rfl⟩⟩
  · rw [← hborn]
    simp [Instr.entryStore, getObj, setObj, Sem.run, hb, asInt, asIntOf, hfi, hsame]
  · rw [Array.toList_modify]; exact h4
  · rw [Array.toList_modify]; exact pairwise_modify (fun e => { e with key := .int .i64 k, val := f v }) (fun _ => rfl) i h2
  · rw [Array.toList_modify]; exact mem_modify_born (fun e => { e with key := .int .i64 k, val := f v }) (fun _ => rfl) i h3

theorem wpList_mapEntry_mpI {ops : Array Oper} {rest : List Oper} {op : Oper} {A : Act} {Q : Exit → Act → World → Prop} (hgd : op.guard = none) (x y : Operand) (hop : op.op = Op.mapEntry t x y)
    (ht : P.underlying t = some (.map kt et)) (hk : P.underlying kt = some (.int .i64)) (o : Own w (mpI f b m :: l)) (k : Int) {u : α} (hu : mget m k = some u)
    (hx : A.eval x = .map (some b)) (hy : A.eval y = .int .i64 k)
    (h : ∀ w' (born : Nat), BornAt m w' b k born → Own w' (mpI f b m :: l) → Calm w w' → wpList P ops Q rest (A.put op.dst (.tuple #[f u, .int .i64 (born : Int)])) w') : wpList P ops Q (op :: rest) A w := by
  refine wpList_plain hgd fun K hK => ?_
  obtain ⟨w', born, hr, h1, h2, h3⟩ := run_mapEntry_mpI ht hk o k hu
  unfold Oper.wp
  simp [execOp, hop, hx, hy, hr]
  exact hK _ _ (h w' born h1 h2 h3)
theorem wpList_entryStore_mpI {ops : Array Oper} {rest : List Oper} {op : Oper} {A : Act} {Q : Exit → Act → World → Prop} (hgd : op.guard = none) (x y v : Operand) (hop : op.op = Op.entryStore t x y v)
    (o : Own w (mpI f b m :: l)) (k : Int) (u : α) {born : Nat} (hB : BornAt m w b k born)
    (hx : A.eval x = .map (some b)) (hy : A.eval y = .int .i64 (born : Int)) (hv : A.eval v = f u)
    (h : ∀ w', Own w' (mpI f b (mput m k u) :: l) → Calm w w' → wpList P ops Q rest (A.put op.dst undef) w') : wpList P ops Q (op :: rest) A w := by
  refine wpList_plain hgd fun K hK => ?_
  obtain ⟨w', hr, h2, h3⟩ := run_entryStore_mpI (P := P) (t := t) o k u hB
  unfold Oper.wp
  simp [execOp, hop, hx, hy, hv, hr, Result.andThen]
  exact hK _ _ (h w' h2 h3)
end
end Go.Proofs.Ytkmlkpfabkhleaa

/- Ranging over a map with int keys while its own entries are stored anew. -/
namespace Go.Proofs.Ytkmlkpfabkhleaa
open Go.RowKit
open SP

section
variable {α : Type} {f : α → Value} {w w' : World} {R : List SP} {tb ib : Nat} {m : List (Int × α)} {S : Int → Bool} {cur : Option Int}

/-- Block tb is a map that holds m; block ib ranges over it: the keys of S have come, the last of them was 'cur'. -/
def SP.rng (f : α → Value) (tb ib : Nat) (m : List (Int × α)) (S : Int → Bool) (cur : Option Int) : SP := ex fun (p : Array MapEntry × Nat × Array Nat) =>
  st [pu (p.1.toList.map (fun e => (e.key, e.val)) = m.map (fun x => (Value.int .i64 x.1, f x.2)) ∧ p.1.toList.Pairwise (fun x y => x.born < y.born) ∧ (∀ e ∈ p.1.toList, e.born < p.2.1) ∧
    (∀ (i : Nat) (e : MapEntry) (x : Int × α), p.1.toList[i]? = some e → m[i]? = some x → (p.2.2.contains e.born = S x.1)) ∧
    (∀ k, cur = some k → ∃ (i : Nat) (e : MapEntry) (x : Int × α), p.1.toList[i]? = some e ∧ m[i]? = some x ∧ x.1 = k ∧ p.2.2.back? = some e.born)),
    blk tb (.map p.1 p.2.1), blk ib (.mapIter (some tb) p.2.1 p.2.2 p.2.1)]

theorem Own.rng : Own w (SP.rng f tb ib m S cur :: R) ↔ ∃ (es : Array MapEntry) (clock : Nat) (seen : Array Nat),
    es.toList.map (fun e => (e.key, e.val)) = m.map (fun x => (Value.int .i64 x.1, f x.2)) ∧ es.toList.Pairwise (fun x y => x.born < y.born) ∧ (∀ e ∈ es.toList, e.born < clock) ∧
    (∀ (i : Nat) (e : MapEntry) (x : Int × α), es.toList[i]? = some e → m[i]? = some x → (seen.contains e.born = S x.1)) ∧
    (∀ k, cur = some k → ∃ (i : Nat) (e : MapEntry) (x : Int × α), es.toList[i]? = some e ∧ m[i]? = some x ∧ x.1 = k ∧ seen.back? = some e.born) ∧
    Own w (SP.blk tb (.map es clock) :: SP.blk ib (.mapIter (some tb) clock seen clock) :: R) := by
  constructor
  · intro o
    obtain ⟨⟨es, clock, seen⟩, o⟩ := Own.ex.1 o
    obtain ⟨⟨h1, h2, h3, h4, h5⟩, o⟩ := Own.pu.1 (Own.st.1 o)
    exact ⟨es, clock, seen, h1, h2, h3, h4, h5, o⟩
  · rintro ⟨es, clock, seen, h1, h2, h3, h4, h5, o⟩
    exact Own.ex.2 ⟨(es, clock, seen), Own.st.2 (Own.pu.2 ⟨⟨h1, h2, h3, h4, h5⟩, o⟩)⟩

variable {P : Program} {t kt et : TypeId}

theorem run_range_mpI (ht : P.underlying t = some (.map kt et)) (o : Own w (SP.mpI f tb m :: R)) :
    ∃ w', (Instr.range t (.map (some tb))).run P w = .ok (.pointer (some ⟨w.heap.size, 0, none⟩)) w' ∧ Own w' (SP.rng f tb w.heap.size m (fun _ => false) none :: R) ∧ Calm w w' := by
  obtain ⟨es, clock, h1, h2, h3, o⟩ := Own.mpI.1 o
  have hb := o.blk
  refine ⟨w.alloc (.mapIter (some tb) clock #[] clock), ?_, Own.rng.2 ⟨es, clock, #[], h1, h2, h3, fun _ _ _ _ _ => by simp, (fun k h => by cases h), (o.alloc _).swap⟩, ⟨rfl, rfl, rfl⟩⟩
  simp [Instr.range, run_underlying ht, getObj, newObj, Sem.run, hb]

/-- The range is over. -/
theorem Own.rng_done (o : Own w (SP.rng f tb ib m S cur :: R)) : Own w (SP.mpI f tb m :: R) := by
  obtain ⟨es, clock, seen, h1, h2, h3, _, _, o⟩ := Own.rng.1 o
  exact Own.mpI.2 ⟨es, clock, h1, h2, h3, o.swap.drop⟩

theorem lists_get {es : List MapEntry} {m : List (Int × α)} (h : es.map (fun e => (e.key, e.val)) = m.map (fun x => (Value.int .i64 x.1, f x.2))) {i : Nat} {e : MapEntry} (he : es[i]? = some e) :
    ∃ x, m[i]? = some x ∧ e.key = .int .i64 x.1 ∧ e.val = f x.2 := by
  have h1 : (es.map (fun e => (e.key, e.val)))[i]? = some (e.key, e.val) := by rw [List.getElem?_map, he]; rfl
  rw [h, List.getElem?_map, Option.map_eq_some_iff] at h1
  obtain ⟨x, hx, hxe⟩ := h1
  simp only [Prod.mk.injEq] at hxe
  exact ⟨x, hx, hxe.1.symm, hxe.2.symm⟩

theorem lists_get' {es : List MapEntry} {m : List (Int × α)} (h : es.map (fun e => (e.key, e.val)) = m.map (fun x => (Value.int .i64 x.1, f x.2))) {i : Nat} {x : Int × α} (hx : m[i]? = some x) :
    ∃ e, es[i]? = some e ∧ e.key = .int .i64 x.1 ∧ e.val = f x.2 := by
  have h1 : (m.map (fun x => (Value.int .i64 x.1, f x.2)))[i]? = some (.int .i64 x.1, f x.2) := by rw [List.getElem?_map, hx]; rfl
  rw [← h, List.getElem?_map, Option.map_eq_some_iff] at h1
  obtain ⟨e, he, hxe⟩ := h1
  simp only [Prod.mk.injEq] at hxe
  exact ⟨e, he, hxe.1, hxe.2⟩

theorem born_inj {es : List MapEntry} (h : es.Pairwise (fun x y => x.born < y.born)) {i j : Nat} {x y : MapEntry} (hi : es[i]? = some x) (hj : es[j]? = some y) (hb : x.born = y.born) : i = j := by
  rw [List.pairwise_iff_getElem] at h
  obtain ⟨hi1, hi2⟩ := List.getElem?_eq_some_iff.1 hi
  obtain ⟨hj1, hj2⟩ := List.getElem?_eq_some_iff.1 hj
  rcases Nat.lt_trichotomy i j with hlt | rfl | hlt
  · have := h i j hi1 hj1 hlt; rw [hi2, hj2] at this; omega
  · rfl
  · have := h j i hj1 hi1 hlt; rw [hi2, hj2] at this; omega

/-- The next entry: none is left, or some entry that has not come. -/
theorem run_next_rng (ty : TypeId) (hu : Uniq m) (o : Own w (SP.rng f tb ib m S cur :: R)) :
    ((∀ x ∈ m, S x.1 = true) ∧ (Instr.next (.pointer (some ⟨ib, 0, none⟩)) false ty).run P w = .ok (.tuple #[.bool false]) w) ∨
    ∃ (x : Int × α) (w' : World), x ∈ m ∧ S x.1 = false ∧ (Instr.next (.pointer (some ⟨ib, 0, none⟩)) false ty).run P w = .ok (.tuple #[.bool true, .int .i64 x.1, f x.2]) w' ∧
      Own w' (SP.rng f tb ib m (fun k => S k || k == x.1) (some x.1) :: R) ∧ Calm w w' := by
  obtain ⟨es, clock, seen, h1, h2, h3, h4, h5, o⟩ := Own.rng.1 o
  have hb := o.blk
  have hi := o.swap.blk
  have hmem : ∀ (i : Nat) (e : MapEntry), es.toList[i]? = some e → e ∈ es.toList := fun i e h => List.mem_of_getElem? h
  rcases run_next_at (P := P) w ty ib tb clock clock seen es clock hi hb h3 (Nat.le_refl _) with ⟨h6, h7⟩ | ⟨e, he, w1, h6, h7⟩
  · left
    refine ⟨fun x hx => ?_, h7⟩
    obtain ⟨i, hix⟩ := List.getElem?_of_mem hx
    obtain ⟨e, he, _⟩ := lists_get' h1 hix
    rw [← h4 i e x he hix]
    cases hc : seen.contains e.born with
    | true => rfl
    | false =>
      have hin : e ∈ (leftOf es seen) := by
        unfold leftOf
        rw [Array.mem_filter]
        exact ⟨by simpa using hmem i e he, by rw [hc]; rfl⟩
      have := Array.size_pos_of_mem hin
      omega
  · right
    obtain ⟨he1, he2⟩ := mem_left he
    obtain ⟨i, hie⟩ := List.getElem?_of_mem he1
    obtain ⟨x, hx, hk, hv⟩ := lists_get h1 hie
    refine ⟨x, _, List.mem_of_getElem? hx, by rw [← h4 i e x hie hx]; exact he2, by rw [hk, hv] at h7; exact h7, ?_, ?_⟩
    · have o1 : Own w1 (SP.blk tb (.map es clock) :: SP.blk ib (.mapIter (some tb) clock seen clock) :: R) := by
        rcases h6 with rfl | rfl
        · exact o
        · exact o.drew
      refine Own.rng.2 ⟨es, clock, seen.push e.born, h1, h2, h3, ?_, ?_, ?_⟩
      · intro i' e' x' he' hx'
        rw [contains_push, h4 i' e' x' he' hx']
        congr 1
        have hiff : e'.born = e.born ↔ x'.1 = x.1 := by
          constructor
          · intro hb'
            have := born_inj h2 he' hie hb'
            subst this
            rw [hx] at hx'; cases hx'; rfl
          · intro hxx
            have h8 : (m.map (·.1))[i']? = some x.1 := by rw [List.getElem?_map, hx']; simp [hxx]
            have h9 : (m.map (·.1))[i]? = some x.1 := by rw [List.getElem?_map, hx]; rfl
            have := nodup_get hu h8 h9
            subst this
            rw [hie] at he'; cases he'; rfl
        rw [Bool.eq_iff_iff]; simpa using hiff
      · intro k hk'
        cases hk'
        exact ⟨i, e, x, hie, hx, rfl, by simp⟩
      · have o2 := o1.swap
        exact (Own.setMap o2 _).swap
    · rcases h6 with rfl | rfl <;> exact ⟨rfl, rfl, rfl⟩

/-- The round's key and value, read again. -/
theorem run_entry_rng {k : Int} (hu : Uniq m) (o : Own w (SP.rng f tb ib m S (some k) :: R)) {v : α} (hm : mget m k = some v) :
    (Instr.entry (.pointer (some ⟨ib, 0, none⟩))).run P w = .ok (.tuple #[.int .i64 k, f v]) w := by
  obtain ⟨es, clock, seen, h1, h2, h3, h4, h5, o⟩ := Own.rng.1 o
  obtain ⟨i, e, x, he, hx, rfl, hback⟩ := h5 k rfl
  obtain ⟨s', hs⟩ : ∃ s' : Array Nat, seen = s'.push e.born := Array.back?_eq_some_iff.1 hback
  subst hs
  obtain ⟨x', hx', hk, hv⟩ := lists_get h1 he
  rw [hx] at hx'; cases hx'
  have hn : (es.toList.map (·.born)).Nodup := by rw [List.Nodup, List.pairwise_map]; exact h2.imp (fun h => Nat.ne_of_lt h)
  have hr := run_entry_at (P := P) w ib tb clock s' es clock e o.swap.blk o.blk (List.mem_of_getElem? he) hn
  rw [hk, hv] at hr
  have hvx : mget m x.1 = some x.2 := mget_at hu hx
  rw [hvx] at hm
  cases hm
  exact hr

/-- An entry of the ranged map is stored anew. -/
theorem run_update_rng (ht : P.underlying t = some (.map kt et)) (hk : P.underlying kt = some (.int .i64)) (_ : Uniq m) (o : Own w (SP.rng f tb ib m S cur :: R)) (k : Int) (v : α) (hin : (mget m k).isSome = true) :
    ∃ w', (Instr.mapUpdate t (.map (some tb)) (.int .i64 k) (f v)).run P w = .ok () w' ∧ Own w' (SP.rng f tb ib (mput m k v) S cur :: R) ∧ Calm w w' := by
  obtain ⟨es, clock, seen, h1, h2, h3, h4, h5, o⟩ := Own.rng.1 o
  have hb := o.blk
  have hm := midx_mget m k
  have hf := run_findKey_int (P := P) hk h1 k w
  obtain ⟨x, hmg⟩ := Option.isSome_iff_exists.1 hin
  obtain ⟨i, hmi⟩ : ∃ i, midx m k = some i := by rw [hin] at hm; exact Option.isSome_iff_exists.1 hm
  obtain ⟨h6, e0, h7, h8⟩ := mput_lists (f := f) k v es.toList m i h1 hmi
  have h7' : es[i]? = some e0 := by simpa using h7
  simp [hmi, hmg] at hf
  have hborn : ∀ (j : Nat) (e : MapEntry), (es.toList.modify i fun e => { e with key := .int .i64 k, val := f v })[j]? = some e → ∃ e', es.toList[j]? = some e' ∧ e'.born = e.born := by
    intro j e he
    rw [List.getElem?_modify] at he
    cases hx : es.toList[j]? with
    | none => rw [hx] at he; cases he
    | some y =>
      rw [hx] at he
      refine ⟨y, rfl, ?_⟩
      simp at he
      split at he <;> subst he <;> rfl
  have hborn' : ∀ (j : Nat) (e : MapEntry), es.toList[j]? = some e → ∃ e', (es.toList.modify i fun e => { e with key := .int .i64 k, val := f v })[j]? = some e' ∧ e'.born = e.born := by
    intro j e he
    rw [List.getElem?_modify, he]
    simp only [Option.map_eq_map, Option.map_some, Option.some.injEq, exists_eq_left']
    split <;> rfl
  have hkeys : (mput m k v).map (·.1) = m.map (·.1) := by
    rw [mput_keys, if_pos]
    exact Classical.byContradiction fun h => by rw [mget_none.2 h] at hmg; cases hmg
  have hkeyat : ∀ (j : Nat) (y : Int × α), (mput m k v)[j]? = some y → ∃ y', m[j]? = some y' ∧ y'.1 = y.1 := by
    intro j y hy
    have h9 : ((mput m k v).map (·.1))[j]? = some y.1 := by rw [List.getElem?_map, hy]; rfl
    rw [hkeys, List.getElem?_map, Option.map_eq_some_iff] at h9
    exact h9
  have hkeyat' : ∀ (j : Nat) (y : Int × α), m[j]? = some y → ∃ y', (mput m k v)[j]? = some y' ∧ y'.1 = y.1 := by
    intro j y hy
    have h9 : (m.map (·.1))[j]? = some y.1 := by rw [List.getElem?_map, hy]; rfl
    rw [← hkeys, List.getElem?_map, Option.map_eq_some_iff] at h9
    exact h9
  refine ⟨_, ?_, Own.rng.2 ⟨es.modify i fun e => { e with key := .int .i64 k, val := f v }, clock, seen, ?_, ?_, ?_, ?_, ?_, o.setMap _⟩, ⟨rfl, rfl, rfl⟩⟩
  · simp [Instr.mapUpdate, run_underlying ht, getObj, setObj, Sem.run, hb, run_checkKey_int hk, hf, h7', h8, Instr.keyThatStays, Instr.sameBits]
  · rw [Array.toList_modify]; exact h6
  · rw [Array.toList_modify]; exact pairwise_modify (fun e => { e with key := .int .i64 k, val := f v }) (fun _ => rfl) i h2
  · rw [Array.toList_modify]; exact mem_modify_born (fun e => { e with key := .int .i64 k, val := f v }) (fun _ => rfl) i h3
  · rw [Array.toList_modify]
    intro j e y he hy
    obtain ⟨e', he', hbe⟩ := hborn j e he
    obtain ⟨y', hy', hye⟩ := hkeyat j y hy
    rw [← hbe, ← hye]; exact h4 j e' y' he' hy'
  · rw [Array.toList_modify]
    intro k' hk'
    obtain ⟨j, e, y, he, hy, hyk, hbk⟩ := h5 k' hk'
    obtain ⟨e', he', hbe⟩ := hborn' j e he
    obtain ⟨y', hy', hye⟩ := hkeyat' j y hy
    exact ⟨j, e', y', he', hy', by rw [hye]; exact hyk, by rw [hbe]; exact hbk⟩

theorem wpList_mapUpdate_rng {ops : Array Oper} {rest : List Oper} {op : Oper} {A : Act} {Q : Exit → Act → World → Prop} (hgd : op.guard = none) (x y v : Operand) (hop : op.op = Op.mapUpdate t x y v)
    (ht : P.underlying t = some (.map kt et)) (hk : P.underlying kt = some (.int .i64)) (hu : Uniq m) (o : Own w (SP.rng f tb ib m S cur :: R)) (k : Int) (u : α) (hin : (mget m k).isSome = true)
    (hx : A.eval x = .map (some tb)) (hy : A.eval y = .int .i64 k) (hv : A.eval v = f u)
    (h : ∀ w', Own w' (SP.rng f tb ib (mput m k u) S cur :: R) → Calm w w' → wpList P ops Q rest (A.put op.dst undef) w') : wpList P ops Q (op :: rest) A w := by
  refine wpList_plain hgd fun K hK => ?_
  obtain ⟨w', hr, h2, h3⟩ := run_update_rng ht hk hu o k u hin
  unfold Oper.wp
  simp [execOp, hop, hx, hy, hv, hr, Result.andThen]
  exact hK _ _ (h w' h2 h3)

/-- How many entries are to come. -/
def rleft (w : World) (tb ib : Nat) : Nat := match w.heap[tb]?, w.heap[ib]? with
  | some (.map es _), some (.mapIter _ _ seen _) => (leftOf es seen).size
  | _, _ => 0
def kleft (m : List (Int × α)) (S : Int → Bool) : Nat := ((m.map (·.1)).filter (fun k => !S k)).length

theorem filter_len (seen : Array Nat) (S : Int → Bool) : ∀ (es : List MapEntry) (m : List (Int × α)), es.length = m.length → (∀ (i : Nat) (e : MapEntry) (x : Int × α), es[i]? = some e → m[i]? = some x → (seen.contains e.born = S x.1)) →
    (es.filter (fun e => !seen.contains e.born)).length = ((m.map (·.1)).filter (fun k => !S k)).length
  | [], [], _, _ => rfl
  | [], _ :: _, h, _ => by simp at h
  | _ :: _, [], h, _ => by simp at h
  | e :: es, x :: m, h, hp => by
    have h0 := hp 0 e x rfl rfl
    have ih := filter_len seen S es m (by simpa using h) (fun i e' x' h1 h2 => hp (i + 1) e' x' (by simpa using h1) (by simpa using h2))
    rw [List.map_cons, List.filter_cons, List.filter_cons]
    rw [h0]
    cases S x.1
    · simp only [Bool.not_false, if_true, List.length_cons]
      rw [ih]
    · simpa using ih

theorem Own.rleft (o : Own w (SP.rng f tb ib m S cur :: R)) : rleft w tb ib = kleft m S := by
  obtain ⟨es, clock, seen, h1, h2, h3, h4, h5, o⟩ := Own.rng.1 o
  have hb := o.blk
  have hi := o.swap.blk
  unfold Go.Proofs.Ytkmlkpfabkhleaa.rleft
  rw [hb, hi]
  have hl : es.toList.length = m.length := by have := congrArg List.length h1; simpa using this
  have := filter_len seen S es.toList m hl h4
  unfold kleft
  rw [← this]
  simp only [leftOf]
  rw [← Array.length_toList, Array.toList_filter]

theorem filter_lt {l : List Int} {p q : Int → Bool} (h : ∀ x, q x = true → p x = true) {k : Int} (hk : k ∈ l) (h1 : p k = true) (h2 : q k = false) : (l.filter q).length < (l.filter p).length := by
  induction l with
  | nil => simp at hk
  | cons y l ih =>
    have hle : (l.filter q).length ≤ (l.filter p).length := by
      clear ih hk
      induction l with
      | nil => simp
      | cons z l ih =>
        simp only [List.filter_cons]
        cases hq : q z
        · cases hp : p z <;> simp <;> omega
        · rw [h z hq]; simpa using ih
    simp only [List.filter_cons]
    rcases List.mem_cons.1 hk with rfl | hk
    · rw [h1, h2]; simp; omega
    · have := ih hk
      cases hq : q y
      · cases hp : p y <;> simp <;> omega
      · rw [h y hq]; simpa using this

theorem kleft_lt {x : Int × α} (hx : x ∈ m) (hS : S x.1 = false) : kleft m (fun k => S k || k == x.1) < kleft m S := by
  unfold kleft
  refine filter_lt (k := x.1) ?_ (List.mem_map.2 ⟨x, hx, rfl⟩) (by simp [hS]) (by simp)
  intro y hy
  simp at hy
  simp [hy.1]

theorem kleft_mput {k : Int} {v : α} (hk : k ∈ m.map (·.1)) : kleft (mput m k v) S = kleft m S := by
  unfold kleft
  rw [mput_keys, if_pos hk]
end
end Go.Proofs.Ytkmlkpfabkhleaa

/- Parts in another order; the structure Rng: a map ranged over. -/
namespace Go.Proofs.Ytkmlkpfabkhleaa
open Go.RowKit
open SP

def mvUp : Nat → List SP → List SP
  | 0, l => l
  | _ + 1, [] => []
  | n + 1, B :: l => match mvUp n l with
    | [] => [B]
    | A :: l' => A :: B :: l'
theorem mvUp_perm : ∀ (n : Nat) (l : List SP), l.Perm (mvUp n l)
  | 0, l => .refl l
  | _ + 1, [] => .refl _
  | n + 1, B :: l => by
    have h := mvUp_perm n l
    unfold mvUp
    cases hm : mvUp n l with
    | nil => rw [hm] at h; exact h.cons B
    | cons A l' => rw [hm] at h; exact (h.cons B).trans (.swap A B l')
theorem Own.mvUp {w : World} {l : List SP} (n : Nat) (o : Own w l) : Own w (mvUp n l) := o.perm (mvUp_perm n l)
/-- The parts numbered ns first, in this order. -/
def reord : List Nat → List SP → List SP
  | [], l => l
  | n :: ns, l => mvUp (ns.length + n - (ns.filter (· < n)).length) (reord ns l)
theorem Own.reord {w : World} {l : List SP} (o : Own w l) : ∀ ns : List Nat, Own w (reord ns l)
  | [] => o
  | _ :: ns => (o.reord ns).mvUp _
theorem Own.dropN {w : World} : ∀ (d : Nat) {l : List SP}, Own w l → Own w (l.drop d)
  | 0, _, o => o
  | _ + 1, [], o => o
  | d + 1, _ :: _, o => Own.dropN d o.drop
/-- Bring parts to the front and drop the first d of them. -/
theorem Own.re {w : World} {l : List SP} (o : Own w l) (ns : List Nat) (d : Nat := 0) : Own w ((Go.Proofs.Ytkmlkpfabkhleaa.reord ns l).drop d) := (o.reord ns).dropN d

section
variable {α : Type} {f : α → Value} {w : World} {l : List SP} {P : Program} {t kt et : TypeId} {b : Nat} {m : List (Int × α)}
theorem run_len_mpI (ty : TypeId) (ht : P.underlying t = some (.map kt et)) (o : Own w (SP.mpI f b m :: l)) :
    (Builtin.len_ #[t] ty #[.map (some b)]).run P w = .ok (.int .i64 (m.length : Int)) w := by
  obtain ⟨es, clock, h1, _, _, o⟩ := Own.mpI.1 o
  have hb := o.blk
  have hl : es.size = m.length := by have := congrArg List.length h1; simpa using this
  simp [Builtin.len_, run_underlying ht, getObj, Sem.run, hb, hl, goInt]
theorem wpList_len_mpI {ops : Array Oper} {rest : List Oper} {op : Oper} {A : Act} {Q : Exit → Act → World → Prop} (hgd : op.guard = none) (x : Operand)
    (hop : op.op = .call { callee := .builtin .len, args := #[x], argTypes := #[t] })
    (ht : P.underlying t = some (.map kt et)) (o : Own w (SP.mpI f b m :: l)) (hx : A.eval x = .map (some b))
    (h : wpList P ops Q rest (A.put op.dst (.int .i64 (m.length : Int))) w) : wpList P ops Q (op :: rest) A w := by
  refine wpList_plain hgd fun K hK => ?_
  unfold Oper.wp
  simp [execOp, hop, resolve, invoke, builtin, hx, run_len_mpI op.type ht o, Result.andThen]
  exact hK _ _ h
theorem run_clear_mpI (ty : TypeId) (ht : P.underlying t = some (.map kt et)) (o : Own w (SP.mpI f b m :: l)) :
    ∃ w', (Builtin.clear_ #[t] ty #[.map (some b)]).run P w = .ok (.tuple #[]) w' ∧ Own w' (SP.mpI f b ([] : List (Int × α)) :: l) ∧ Calm w w' := by
  obtain ⟨es, clock, h1, _, _, o⟩ := Own.mpI.1 o
  have hb := o.blk
  refine ⟨_, ?_, Own.mpI.2 ⟨#[], clock, rfl, by simp, by simp, o.setMap _⟩, ⟨rfl, rfl, rfl⟩⟩
  simp [Builtin.clear_, run_underlying ht, getObj, setObj, Sem.run, hb]
theorem wpList_clear_mpI {ops : Array Oper} {rest : List Oper} {op : Oper} {A : Act} {Q : Exit → Act → World → Prop} (hgd : op.guard = none) (x : Operand)
    (hop : op.op = .call { callee := .builtin .clear, args := #[x], argTypes := #[t] })
    (ht : P.underlying t = some (.map kt et)) (o : Own w (SP.mpI f b m :: l)) (hx : A.eval x = .map (some b))
    (h : ∀ w', Own w' (SP.mpI f b ([] : List (Int × α)) :: l) → Calm w w' → wpList P ops Q rest (A.put op.dst (.tuple #[])) w') : wpList P ops Q (op :: rest) A w := by
  refine wpList_plain hgd fun K hK => ?_
  obtain ⟨w', hr, h2, h3⟩ := run_clear_mpI op.type ht o
  unfold Oper.wp execOp
  simp only [hop, resolve, invoke, builtin, Sem.run_bind, Sem.run_pure, Result.andThen_ok, List.map_toArray, List.map_cons, List.map_nil, hx, hr]
  exact hK _ _ (h w' h2 h3)
end

theorem drop_at {α : Type} {l : List α} {i : Nat} {x : α} (h : l[i]? = some x) : l.drop i = x :: l.drop (i + 1) := by
  obtain ⟨h1, h2⟩ := List.getElem?_eq_some_iff.1 h
  rw [List.drop_eq_getElem_cons h1, h2]

/-! ### Maps that are ranged over while each entry is stored anew -/
section
variable {α : Type} {g : α → α} {S : Int → Bool}
def upd (g : α → α) (S : Int → Bool) (m : List (Int × α)) : List (Int × α) := m.map fun x => (x.1, if S x.1 then g x.2 else x.2)
theorem upd_keys (g : α → α) (S : Int → Bool) (m : List (Int × α)) : (upd g S m).map (·.1) = m.map (·.1) := by unfold upd; rw [List.map_map]; rfl
theorem upd_none (g : α → α) (m : List (Int × α)) : upd g (fun _ => false) m = m := by unfold upd; simp
theorem upd_all {m : List (Int × α)} (h : ∀ x ∈ m, S x.1 = true) : upd g S m = m.map fun x => (x.1, g x.2) := by
  unfold upd
  exact List.map_congr_left fun x hx => by rw [h x hx, if_pos rfl]
theorem upd_put : ∀ {m : List (Int × α)} (_ : Uniq m) {k : Int} {v : α} (_ : mget m k = some v), mput (upd g S m) k (g v) = upd g (fun z => S z || z == k) m
  | [], _, k, v, h => by simp [mget] at h
  | (k0, v0) :: m, hu, k, v, h => by
    unfold Uniq at hu
    rw [List.map_cons, List.nodup_cons] at hu
    unfold mget at h
    unfold upd
    simp only [List.map_cons]
    unfold mput
    by_cases hk : k = k0
    · subst hk
      rw [if_pos rfl] at h ⊢
      simp at h
      subst h
      simp only [BEq.rfl, Bool.or_true, if_true, List.cons.injEq, true_and]
      refine List.map_congr_left fun x hx => ?_
      have hne : x.1 ≠ k := fun e => hu.1 (List.mem_map.2 ⟨x, hx, e⟩)
      have : (x.1 == k) = false := by simpa using hne
      simp only [this, Bool.or_false]
    · rw [if_neg hk] at h ⊢
      have hb : (k0 == k) = false := by simpa using Ne.symm hk
      simp only [hb, Bool.or_false, List.cons.injEq, true_and]
      exact upd_put hu.2 h
theorem mget_upd : ∀ {m : List (Int × α)} (k : Int), mget (upd g S m) k = (mget m k).map (fun v => if S k then g v else v)
  | [], k => rfl
  | (k0, v0) :: m, k => by
    unfold upd
    simp only [List.map_cons]
    unfold mget
    by_cases hk : k = k0
    · subst hk; simp
    · rw [if_neg hk, if_neg hk]; exact mget_upd k
end

end Go.Proofs.Ytkmlkpfabkhleaa

/- slices.Sorted(maps.Keys(m)) at int keys, at maps of accounts. -/
namespace Go.Proofs.Ytkmlkpfabkhleaa
open Go.RowKit
open Go.Shelf
open SP
section
variable {α : Type} {f : α → Value} {w w' : World} {R : List SP} {b : Nat} {m : List (Int × α)}

theorem keysAcc_spec (mb : Option Nat) (w : World) : Calls Try.prog 96 #[.map mb] w fun e w' => e = .returned (.func (.func 111) #[] #[.pointer (some ⟨w.heap.size, 0, none⟩)]) ∧ w' = w.alloc (.cells #[.map mb] 144) :=
  callsIn_wide.1 (AnyZI.keys_in Try.keys96 Fence.wide 5 trivial rfl mb w)

set_option maxHeartbeats 1000000 in
theorem sortedAcc_spec (kb : Nat) (hk : KeyOk m) (hn : m.length ≤ 1000000) (o : Own w (cel kb 144 [.map (some b)] :: mpI f b m :: R)) :
    Calls Try.prog 84 #[.func (.func 111) #[] #[.pointer (some ⟨kb, 0, none⟩)]] w fun e w' =>
      ∃ a cap, e = .returned (.slice a m.length cap) ∧ Own w' (slc 3 1 a m.length cap ((sortK m).map (Value.int .i64)) :: mpI f b m :: R) ∧ Calm w w' := by
  obtain ⟨D0, hown, hperm, hsize⟩ := mpI_ownsMap hk hn o.drop
  have hlt := o.celLt
  have hseq : SeqGives Fence.wide 2 Try.prog 111 #[.pointer (some ⟨kb, 0, none⟩)] encZ (fun ss => ss.Perm (intKeys D0)) (Maps.size D0) w :=
    AnyZI.keys_gives (ρ := Try.keys96_ren) { Try.keys96 with } Fence.wide _ trivial rfl (by omega) kb b m.length D0 _ hlt (o.cell 0) hown
  have cS := AnyZI.sorted_in Try.sorted Fence.wide 5 trivial trivial trivial trivial rfl (by omega) (Try.sortsIn _) (enters_of Try.func104 (by kernel_rfl) rfl) 111 #[.pointer (some ⟨kb, 0, none⟩)] trivial (enters_of Try.func111 (by kernel_rfl) rfl) _ _
    (by rw [hsize]; unfold maxLen; omega) (by rw [hsize]; omega) _ hseq
  refine (callsIn_wide.1 cS).mono ?_
  rintro e w' ⟨v, ss, rfl, hS, hrow, _, hb⟩
  have hsp := hS.trans hperm
  have hlen : ss.length = m.length := by rw [hsp.length_eq, List.length_map]
  rw [hlen, mergeSort_same hsp] at hrow
  obtain ⟨a, cap, rfl, o2⟩ := own_of_row o.drop hb hrow
  exact ⟨a, cap, rfl, o2, ⟨hb.os, hb.tape, hb.output⟩⟩
end
end Go.Proofs.Ytkmlkpfabkhleaa

/- The program's ledger of lags: New, Join, SetWeight, Transfer, Lag. -/
namespace Go.Proofs.Ytkmlkpfabkhleaa
open Go.RowKit
open SP
section
variable {W w w' : World} {b N : Nat} {L : List Tg} {R : List SP}

def accV (t : Tg) : Value := .agg #[.int .i64 t.w, .int .i64 t.s]
def LagR (b N : Nat) (L : List Tg) : SP := ex fun (p : Nat × List (Int × Tg)) =>
  st [pu (RepN p.2 L ∧ LgOk N L), cel b 146 [.map (some p.1)], mpI accV p.1 p.2]
theorem LagR.iff : Own w (LagR b N L :: R) ↔ ∃ ab m, RepN m L ∧ LgOk N L ∧ Own w (cel b 146 [.map (some ab)] :: mpI accV ab m :: R) := by
  constructor
  · intro o
    obtain ⟨⟨ab, m⟩, h⟩ := Own.ex.1 o
    obtain ⟨⟨h1, h2⟩, h5⟩ := Own.pu.1 (Own.st.1 h)
    exact ⟨ab, m, h1, h2, h5⟩
  · rintro ⟨ab, m, h1, h2, h5⟩
    exact Own.ex.2 ⟨(ab, m), Own.st.2 (Own.pu.2 ⟨⟨h1, h2⟩, h5⟩)⟩
theorem LagR.ok (o : Own w (LagR b N L :: R)) : LgOk N L := by
  obtain ⟨_, _, _, h, _⟩ := LagR.iff.1 o
  exact h
theorem LagR.le {M : Nat} (h : N ≤ M) (o : Own w (LagR b N L :: R)) : Own w (LagR b M L :: R) := by
  obtain ⟨ab, m, h1, h2, h3⟩ := LagR.iff.1 o
  exact LagR.iff.2 ⟨ab, m, h1, h2.le h, h3⟩

theorem Try.zeroAcc (w : World) : (zeroValue 142).run Try.prog w = .ok (.agg #[.int .i64 0, .int .i64 0]) w := by kernel_rfl
section
variable {ab : Nat} {m : List (Int × Tg)} {k : Int} {t : Tg}
theorem lookN_some (o : Own w (mpI accV ab m :: R)) (hm : RepN m L) (h : fget L k = some t) :
    (Instr.lookup 144 (.map (some ab)) (.int .i64 k) true).run Try.prog w = .ok (.tuple #[.agg #[.int .i64 t.w, .int .i64 t.s], .bool true]) w := by
  rw [run_lookup_mpI Try.underlying144 Try.underlying3 Try.zeroAcc o k true, hm.get, h]; rfl
theorem lookN_one (o : Own w (mpI accV ab m :: R)) (hm : RepN m L) (h : fget L k = some t) :
    (Instr.lookup 144 (.map (some ab)) (.int .i64 k) false).run Try.prog w = .ok (.agg #[.int .i64 t.w, .int .i64 t.s]) w := by
  rw [run_lookup_mpI Try.underlying144 Try.underlying3 Try.zeroAcc o k false, hm.get, h]; rfl
theorem lookN_none (o : Own w (mpI accV ab m :: R)) (hm : RepN m L) (h : fget L k = none) :
    (Instr.lookup 144 (.map (some ab)) (.int .i64 k) true).run Try.prog w = .ok (.tuple #[.agg #[.int .i64 0, .int .i64 0], .bool false]) w := by
  rw [run_lookup_mpI Try.underlying144 Try.underlying3 Try.zeroAcc o k true, hm.get, h]; rfl
end

set_option maxHeartbeats 800000 in
theorem lagNew_spec (o : Own w R) : Calls Try.prog 65 #[] w fun e w' => ∃ b, Ret (.pointer (some ⟨b, 0, none⟩)) (LagR b 0 [] :: R) w e w' := by
  have hmm := @run_makeMap Try.prog
  go_enter Try.func65, Try.ntmps65
  go_wp2
  go_ret
  have o1 := o.mpI_made (f := accV)
  have o2 := o1.alloc (.cells #[.map (some w.heap.size)] 146)
  simp only [World.size_alloc] at o2
  exact ⟨_, rfl, LagR.iff.2 ⟨w.heap.size, [], RepN.start, LgOk.start, o2⟩, ⟨rfl, rfl, rfl⟩⟩

set_option maxHeartbeats 3200000 in
set_option maxRecDepth 100000 in
theorem lagJoin_spec (f wt : Int) (o : Own w (LagR b N L :: R)) :
    Calls Try.prog 67 #[.pointer (some ⟨b, 0, none⟩), .int .i64 f, .int .i64 wt] w (Ret (.int .i64 (nJoin L f wt).1) (LagR b N (nJoin L f wt).2 :: R) w) := by
  obtain ⟨ab, m, hm, hok, o1⟩ := LagR.iff.1 o
  have c1 := o1.cell 0
  have hok' := nJoin_ok hok f wt
  by_cases hbad : f < 0 ∨ 32 ≤ f ∨ wt < 1 ∨ 16 < wt
  · have e : nJoin L f wt = (1, L) := by unfold nJoin; rw [if_pos hbad]
    rw [e]; clear e hok'
    have fin : ∀ x, Ret (.int .i64 1) (LagR b N L :: R) w (.returned (.int .i64 1)) (w.alloc x) := fun x => ⟨rfl, o.more x, ⟨rfl, rfl, rfl⟩⟩
    have key : ∃ (t : Tg) (z : Bool), (Instr.lookup 144 (.map (some ab)) (.int .i64 f) true).run Try.prog w = .ok (.tuple #[.agg #[.int .i64 t.w, .int .i64 t.s], .bool z]) w := by
      cases hf : fget L f with
      | none => exact ⟨⟨0, 0, 0⟩, false, lookN_none (o1.up 1) hm hf⟩
      | some t => exact ⟨t, true, lookN_some (o1.up 1) hm hf⟩
    obtain ⟨t, z, hlk⟩ := key
    by_cases h1 : f < 0
    · clear hbad
      go_enter Try.func67, Try.ntmps67
      go_wp2
      go_ret
      exact fin _
    · by_cases h2 : 32 ≤ f
      · clear hbad
        go_enter Try.func67, Try.ntmps67
        go_wp2
        go_ret
        exact fin _
      · by_cases h3 : wt < 1
        · clear hbad
          go_enter Try.func67, Try.ntmps67
          go_wp2
          go_ret
          exact fin _
        · have h4 : 16 < wt := by omega
          clear hbad
          go_enter Try.func67, Try.ntmps67
          go_wp2
          go_ret
          exact fin _
  · have h1 : ¬ f < 0 := by omega
    have h2 : ¬ 32 ≤ f := by omega
    have h3 : ¬ wt < 1 := by omega
    have h4 : ¬ 16 < wt := by omega
    cases hf : fget L f with
    | some t =>
      have e : nJoin L f wt = (7, L) := by unfold nJoin; rw [if_neg hbad, hf]; rfl
      rw [e]; clear e hbad hok'
      have hlk := lookN_some (o1.up 1) hm hf
      clear hf
      go_enter Try.func67, Try.ntmps67
      go_wp2
      go_ret
      exact ⟨rfl, o.more _, ⟨rfl, rfl, rfl⟩⟩
    | none =>
      have e : nJoin L f wt = (0, insT ⟨f, wt, 0⟩ L) := by unfold nJoin; rw [if_neg hbad, hf]; rfl
      rw [e] at hok' ⊢
      clear e hbad
      have hlk := lookN_none (o1.up 1) hm hf
      have hom := o1.alloc (.cells #[.int .i64 0, .int .i64 0] 142)
      have hrep : RepN (mput m f ⟨f, wt, 0⟩) (insT ⟨f, wt, 0⟩ L) := hm.ins (x := ⟨f, wt, 0⟩) hf (by refine ⟨?_, ?_, ?_, ?_⟩ <;> (simp only; omega))
      have hbl := o1.celLt
      clear hf
      go_enter Try.func67, Try.ntmps67
      go_wp2_with (at_mapUpdate; refine wpList_mapUpdate_mpI (f := accV) rfl _ _ _ rfl Try.underlying144 Try.underlying3 (hom.up 2) f ⟨f, wt, 0⟩ rfl rfl rfl ?c1)
      case c1 =>
      intro w1 o2 k2
      go_wp2
      go_ret
      exact ⟨rfl, LagR.iff.2 ⟨ab, _, hrep, hok', o2.re [1, 2, 0] 1⟩, k2.al⟩

def lagV (L : List Tg) (f : Int) : Value := match fget L f with
  | some t => .tuple #[.int .i64 t.s, .bool true]
  | none => .tuple #[.int .i64 0, .bool false]
theorem lagLag_spec (f : Int) (o : Own w (LagR b N L :: R)) :
    Calls Try.prog 73 #[.pointer (some ⟨b, 0, none⟩), .int .i64 f] w (Ret (lagV L f) (LagR b N L :: R) w) := by
  obtain ⟨ab, m, hm, hok, o1⟩ := LagR.iff.1 o
  have c1 := o1.cell 0
  have key : ∃ (wt s : Int) (z : Bool), (Instr.lookup 144 (.map (some ab)) (.int .i64 f) true).run Try.prog w = .ok (.tuple #[.agg #[.int .i64 wt, .int .i64 s], .bool z]) w ∧ lagV L f = .tuple #[.int .i64 s, .bool z] := by
    unfold lagV
    cases hf : fget L f with
    | none => exact ⟨0, 0, false, lookN_none (o1.up 1) hm hf, rfl⟩
    | some t => exact ⟨t.w, t.s, true, lookN_some (o1.up 1) hm hf, rfl⟩
  obtain ⟨wt, s, z, hlk, e⟩ := key
  rw [e]; clear e
  go_enter Try.func73, Try.ntmps73
  go_wp2
  go_ret2
  exact ⟨rfl, o.more _, ⟨rfl, rfl, rfl⟩⟩

end
end Go.Proofs.Ytkmlkpfabkhleaa

/- The program's ledger of lags: Parts, Sum. -/
namespace Go.Proofs.Ytkmlkpfabkhleaa
open Go.RowKit
open SP
section
variable {W w w' : World} {b N : Nat} {L : List Tg} {R : List SP}

theorem accW (x y : Int) (w : World) : (Instr.field 142 (.agg #[.int .i64 x, .int .i64 y]) 0).run Try.prog w = .ok (.int .i64 x) w := by kernel_rfl
theorem accS (x y : Int) (w : World) : (Instr.field 142 (.agg #[.int .i64 x, .int .i64 y]) 1).run Try.prog w = .ok (.int .i64 y) w := by kernel_rfl
/-- The flows with their weights. -/
def ptsOf (L : List Tg) : List (Int × Int) := L.map fun t => (t.f, t.w)
theorem ptsOf_len (L : List Tg) : (ptsOf L).length = L.length := by unfold ptsOf; rw [List.length_map]
theorem ptsOf_ok (h : NOk L) : PtOk (ptsOf L) := by
  refine ⟨?_, fun p hp => ?_, by rw [ptsOf_len]; exact h.len⟩
  · unfold ptsOf; rw [List.pairwise_map]; exact h.asc
  · obtain ⟨t, ht, rfl⟩ := List.mem_map.1 hp
    exact h.rng t ht
theorem pws_pts (L : List Tg) : pws (ptsOf L) = wts L := by unfold pws ptsOf wts; rw [List.map_map]; rfl

def PtRel (b ab : Nat) (L : List Tg) (m : List (Int × Tg)) (a : Option Addr) (cap : Nat) (ks : List Int) (R : List SP) (w : World) (v3 v13 : Value) (wr : World) : Prop :=
  ∃ (i : Nat) (a' : Option Addr) (c' : Nat), v13 = .int .i64 (i : Int) ∧ i ≤ L.length ∧ v3 = .slice a' i c' ∧
    Own wr (slc 134 2 a' i c' (flat part ((ptsOf L).take i)) :: slc 3 1 a ks.length cap (ks.map (Value.int .i64)) :: cel b 146 [.map (some ab)] :: mpI accV ab m :: R) ∧ Calm w wr
def PartsPost (b N : Nat) (L : List Tg) (R : List SP) (w : World) (e : Ending) (w' : World) : Prop :=
  ∃ (a : Option Addr) (c : Nat), Ret (.slice a L.length c) (slc 134 2 a L.length c (flat part (ptsOf L)) :: LagR b N L :: R) w e w'

set_option maxHeartbeats 3200000 in
set_option maxRecDepth 100000 in
theorem lagParts_spec (o : Own w (LagR b N L :: R)) :
    Calls Try.prog 72 #[.pointer (some ⟨b, 0, none⟩)] w (PartsPost b N L R w) := by
  obtain ⟨ab, m, hm, hok, o1⟩ := LagR.iff.1 o
  have c1 := o1.cell 0
  have hlen := hm.ok.len
  have hml := hm.len
  have hks := hm.sort
  have hbl := o1.celLt
  go_enter Try.func72, Try.ntmps72
  go_wp2_with fail
  refine (keysAcc_spec _ _).mono ?_
  rintro e1 w1 ⟨rfl, rfl⟩
  have o2 := ((o1.alloc (.cells #[.map (some ab)] 144)).up 2).up 1
  go_wp2_with fail
  refine (sortedAcc_spec w.heap.size hm.keyOk (by omega) o2).mono ?_
  rintro e2 w2 ⟨a, cap, rfl, o3, k3⟩
  rw [hks] at o3
  have hkl : (L.map (·.f)).length = m.length := by rw [List.length_map, hml]
  rw [← hkl] at o3 ⊢
  have hget : ∀ (i : Nat) (t : Tg), L[i]? = some t → (L.map (·.f))[i]? = some t.f := fun i t h => by rw [List.getElem?_map, h]; rfl
  have Hget := Lib.hid hget
  have hkn : (L.map (·.f)).length = L.length := List.length_map _
  generalize L.map (·.f) = ks at *
  have hT : PtRel b ab L m a cap ks R w (.slice none 0 0) (.int .i64 0) w2 :=
    ⟨0, none, 0, rfl, by omega, rfl, Own.slc_nil (o3.re [0, 2, 1]), ⟨k3.os, k3.tape, k3.output⟩⟩
  have Hkn := Lib.hid hkn
  have hk32 : ks.length ≤ 32 := by omega
  clear hkn hkl hks hml o3 k3 o2 o1 c1 hget hbl
  go_wp2
  go_loopw [3, 13] (fun v3 v13 wr => PtRel b ab L m a cap ks R w v3 v13 wr) (fun _ v13 _ => ks.length - (ivOf v13).toNat)
  case atStart => exact hT
  case round =>
    clear hT
    obtain ⟨i, a', c', rfl, hi, rfl, oR, kR⟩ := hrel
    by_cases hlt : i < ks.length
    · obtain ⟨t, ht⟩ : ∃ t, L[i]? = some t := ⟨_, List.getElem?_eq_getElem (by have := Hkn.out; omega)⟩
      have hkt := Hget.out i t ht
      obtain ⟨g, rfl, hc, _, _⟩ := (oR.up 1).slc_cell (by omega)
      have d0 := hc i (.int .i64 t.f) (by rw [List.getElem?_map, hkt]; rfl)
      have c1 := (oR.up 2).cell 0
      have hfg := fget_memN hm.ok (List.mem_of_getElem? ht)
      have hlk := lookN_one (oR.up 3) hm hfg
      have htk : (ptsOf L).take (i + 1) = (ptsOf L).take i ++ [(t.f, t.w)] := by
        rw [List.take_add_one]; unfold ptsOf; rw [List.getElem?_map, ht]; rfl
      have HTK := Lib.hid htk
      have hfl := accW t.w t.s
      have oA := oR.alloc (.cells #[.int .i64 t.f, .int .i64 t.w] 134)
      clear hc hkt ht hfg htk
      go_wp2_with (at_builtin; refine wpList_append_slc rfl _ _ rfl Try.partT rfl (oA.up 1) ⟨wr.heap.size, 0, none⟩ 1 1 [.int .i64 t.f, .int .i64 t.w] rfl rfl ?c1 ?c2 ?c3 ?c4 ?c5)
      case c1 => exact Own.news (T := 134) oA
      case c2 => intro u hu; simp at hu; rcases hu with rfl | rfl <;> rfl
      case c3 => unfold maxLen; omega
      case c4 => omega
      case c5 =>
      intro a2 c2 w5 o5 k5
      go_wp2
      go_roundw
      case rel =>
        refine ⟨i + 1, a2, c2, by go_num, by have := Hkn.out; omega, rfl, ?_, kR.trans ⟨k5.os, k5.tape, k5.output⟩⟩
        rw [HTK.out, flat_append]
        exact (o5.up 1).drop
      case measure => simp [ivOf]; omega
    · have hin : i = L.length := by have := Hkn.out; omega
      subst hin
      rw [List.take_of_length_le (by rw [ptsOf_len]; omega)] at oR
      go_wp2
      go_ret
      exact ⟨a', c', rfl, Own.swap (LagR.iff.2 ⟨ab, m, hm, hok, oR.re [1, 2, 3, 0] 1⟩), kR⟩

/-- The sum over the entries that have been visited. -/
def sumV (S : Int → Bool) (m : List (Int × Tg)) : Int := sumI (m.map fun p => if S p.1 then p.2.s else 0)
theorem sumV_none (m : List (Int × Tg)) : sumV (fun _ => false) m = 0 := by
  unfold sumV
  induction m with
  | nil => rfl
  | cons p m ih => rw [List.map_cons, sumI_cons, ih]; rfl
theorem sumI_perm {l l' : List Int} (h : l.Perm l') : sumI l = sumI l' := by
  induction h with
  | nil => rfl
  | cons x _ ih => rw [sumI_cons, sumI_cons, ih]
  | swap x y l => rw [sumI_cons, sumI_cons, sumI_cons, sumI_cons]; omega
  | trans _ _ h1 h2 => rw [h1, h2]
theorem sumV_next {S : Int → Bool} {k : Int} : ∀ {m : List (Int × Tg)} (_ : Uniq m) {t : Tg} (_ : mget m k = some t) (_ : S k = false), sumV (fun z => S z || z == k) m = sumV S m + t.s
  | [], _, t, h, _ => by simp [mget] at h
  | (k0, u) :: m, hu, t, h, hS => by
    unfold Uniq at hu
    rw [List.map_cons, List.nodup_cons] at hu
    unfold sumV
    rw [List.map_cons, List.map_cons, sumI_cons, sumI_cons]
    unfold mget at h
    by_cases hk : k = k0
    · subst hk
      rw [if_pos rfl] at h
      obtain rfl := Option.some.inj h
      have e : m.map (fun p => if (S p.1 || p.1 == k) = true then p.2.s else 0) = m.map (fun p => if S p.1 = true then p.2.s else 0) := by
        refine List.map_congr_left fun p hp => ?_
        have : p.1 ≠ k := fun e => hu.1 (List.mem_map.2 ⟨p, hp, e⟩)
        simp [this]
      rw [e]
      simp [hS]; omega
    · rw [if_neg hk] at h
      have ih := sumV_next (S := S) (k := k) (m := m) hu.2 h hS
      unfold sumV at ih
      rw [ih]
      have : (k0 == k) = false := by simpa using fun e => hk e.symm
      simp [this]; omega
theorem sumV_all {S : Int → Bool} {m : List (Int × Tg)} (h : ∀ x ∈ m, S x.1 = true) (hm : RepN m L) : sumV S m = sumS L := by
  have e : m.map (fun p => if S p.1 = true then p.2.s else 0) = m.map fun p => p.2.s := List.map_congr_left fun p hp => by rw [if_pos (h p hp)]
  unfold sumV
  rw [e]
  have := sumI_perm (hm.perm.map fun p => p.2.s)
  rw [this, List.map_map]; rfl
theorem sumV_abs (S : Int → Bool) (m : List (Int × Tg)) : ab (sumV S m) ≤ sumI (m.map fun p => ab p.2.s) := by
  unfold sumV
  induction m with
  | nil => show ab 0 ≤ 0; decide
  | cons p m ih =>
    rw [List.map_cons, List.map_cons, sumI_cons, sumI_cons]
    generalize sumI (m.map fun p => if S p.1 then p.2.s else 0) = y at *
    generalize sumI (m.map fun p => ab p.2.s) = z at *
    have h1 : ab (if S p.1 = true then p.2.s else 0) ≤ ab p.2.s := by split <;> (unfold ab; omega)
    unfold ab at *
    omega
theorem repN_abs {m : List (Int × Tg)} (hm : RepN m L) : sumI (m.map fun p => ab p.2.s) = absS L := by
  have := sumI_perm (hm.perm.map fun p => ab p.2.s)
  rw [this, List.map_map]
  unfold absS lags
  rw [List.map_map]; rfl

def SumRel (b ab ib : Nat) (_ : List Tg) (m : List (Int × Tg)) (R : List SP) (w : World) (v3 : Value) (wr : World) : Prop :=
  ∃ (S : Int → Bool) (cur : Option Int), v3 = .int .i64 (sumV S m) ∧ Own wr (rng accV ab ib m S cur :: cel b 146 [.map (some ab)] :: R) ∧ Calm w wr
set_option maxHeartbeats 3200000 in
set_option maxRecDepth 100000 in
theorem lagSum_spec (hN : (N : Int) ≤ 1000000000000) (o : Own w (LagR b N L :: R)) :
    Calls Try.prog 82 #[.pointer (some ⟨b, 0, none⟩)] w (Ret (.int .i64 (sumS L)) (LagR b N L :: R) w) := by
  obtain ⟨ab, m, hm, hok, o1⟩ := LagR.iff.1 o
  have c1 := o1.cell 0
  have hum := hm.uniq
  obtain ⟨w5, hr5, o9, k9⟩ := run_range_mpI (P := Try.prog) Try.underlying144 (o1.up 1)
  have hT : SumRel b ab w.heap.size L m R w (.int .i64 0) w5 := ⟨fun _ => false, none, by rw [sumV_none], o9, k9⟩
  have hbd : ∀ S : Int → Bool, Go.Proofs.Ytkmlkpfabkhleaa.ab (sumV S m) ≤ 8192 * (N : Int) := fun S => by
    have h1 := sumV_abs S m
    rw [repN_abs hm] at h1
    exact Int.le_trans h1 hok.sm
  have HBd := Lib.hid hbd
  generalize hib : w.heap.size = ib at *
  have HM := Lib.hid hm
  have HOK := Lib.hid hok
  clear o9 k9 hib hbd hm hok
  go_enter Try.func82, Try.ntmps82
  go_wp2
  go_loopw [3] (fun v wr => SumRel b ab ib L m R w v wr) (fun _ wr => rleft wr ab ib)
  case atStart => exact hT
  case round =>
    clear hT hr5 c1 o1 o
    obtain ⟨S, cur, rfl, oR, kR⟩ := hrel
    rcases run_next_rng (P := Try.prog) 0 hum oR with ⟨hd, hr⟩ | ⟨x, w6, hx, hS, hr, o10, k10⟩
    · have hall := sumV_all hd HM.out
      rw [hall]
      have oD := oR.rng_done
      go_wp2
      go_ret
      exact ⟨rfl, LagR.iff.2 ⟨ab, m, HM.out, HOK.out, oD.up 1⟩, kR⟩
    · have hmv := mget_mem hum hx
      have hen := run_entry_rng (P := Try.prog) hum o10 hmv
      obtain ⟨k, t⟩ := x
      dsimp only at hS hmv hen o10
      have hnx := sumV_next hum hmv hS
      have b1 := HBd.out S
      have b2 := HBd.out (fun z => S z || z == k)
      rw [hnx] at b2
      unfold accV at hen
      obtain ⟨s0, hs0⟩ : ∃ s0, sumV S m = s0 := ⟨_, rfl⟩
      rw [hs0] at hnx b1 b2 ⊢
      have hw : IntKind.i64.wrap (s0 + t.s) = s0 + t.s := by unfold Go.Proofs.Ytkmlkpfabkhleaa.ab at b1 b2; rw [IntKind.wrap_i64]; omega
      have HNX := Lib.hid hnx
      clear hnx b1 b2 hs0
      have oA := o10.alloc (.cells #[.int .i64 t.w, .int .i64 t.s] 142)
      go_wp2
      go_roundw
      case rel => exact ⟨_, _, by rw [HNX.out], oA.drop, ⟨k10.os.trans kR.os, k10.tape.trans kR.tape, k10.output.trans kR.output⟩⟩
      case measure =>
        rw [oA.drop.rleft, oR.rleft]
        exact kleft_lt hx hS
end
end Go.Proofs.Ytkmlkpfabkhleaa

/- The order of comp: New, Time, Tag, least, Select. -/
namespace Go.Proofs.Ytkmlkpfabkhleaa
open Go.RowKit
open SP

/-- The order behind block b: when it is rebased, the weights of the eligible flows, the tags, the time. -/
def OrdC (b : Nat) (reb : Int) (eb tb : Nat) (el tg : List (Int × Int)) (tm : Int) : SP :=
  st [cel b 130 [.int .i64 reb, .map (some eb), .map (some tb), .int .i64 tm], mpI (Value.int .i64) eb el, mpI (Value.int .i64) tb tg]
def OrderR (b : Nat) (reb : Int) (el tg : List (Int × Int)) (tm : Int) : SP := ex fun (p : Nat × Nat) => OrdC b reb p.1 p.2 el tg tm

section
variable {W w w' : World} {b : Nat} {reb tm : Int} {el tg : List (Int × Int)} {R : List SP}

theorem OrderR.iff : Own w (OrderR b reb el tg tm :: R) ↔ ∃ eb tb, Own w (cel b 130 [.int .i64 reb, .map (some eb), .map (some tb), .int .i64 tm] :: mpI (Value.int .i64) eb el :: mpI (Value.int .i64) tb tg :: R) := by
  constructor
  · intro o
    obtain ⟨⟨eb, tb⟩, h⟩ := Own.ex.1 o
    exact ⟨eb, tb, Own.st.1 h⟩
  · rintro ⟨eb, tb, h⟩
    exact Own.ex.2 ⟨(eb, tb), Own.st.2 h⟩

theorem OrdC.iff {eb tb : Nat} : Own w (OrdC b reb eb tb el tg tm :: R) ↔ Own w (cel b 130 [.int .i64 reb, .map (some eb), .map (some tb), .int .i64 tm] :: mpI (Value.int .i64) eb el :: mpI (Value.int .i64) tb tg :: R) := Own.st
theorem OrderR.ordC : Own w (OrderR b reb el tg tm :: R) ↔ ∃ eb tb, Own w (OrdC b reb eb tb el tg tm :: R) := by
  constructor
  · intro o
    obtain ⟨⟨eb, tb⟩, h⟩ := Own.ex.1 o
    exact ⟨eb, tb, h⟩
  · rintro ⟨eb, tb, h⟩
    exact Own.ex.2 ⟨(eb, tb), h⟩

theorem Try.zeroI (w : World) : (zeroValue 3).run Try.prog w = .ok (.int .i64 0) w := by kernel_rfl
theorem Try.zeroL (w : World) : (zeroValue 2).run Try.prog w = .ok (.int .i64 0) w := by kernel_rfl

def tget (m : List (Int × Int)) (k : Int) : Int := (mget m k).getD 0

theorem lookII (mb : Nat) {m : List (Int × Int)} (o : Own w (mpI (Value.int .i64) mb m :: R)) (k : Int) (ok : Bool) :
    (Instr.lookup 108 (.map (some mb)) (.int .i64 k) ok).run Try.prog w = .ok (if ok then .tuple #[.int .i64 (tget m k), .bool (mget m k).isSome] else .int .i64 (tget m k)) w := by
  rw [run_lookup_mpI Try.underlying108 Try.underlying3 Try.zeroI o k ok]
  unfold tget
  cases mget m k <;> rfl
theorem lookIL (mb : Nat) {m : List (Int × Int)} (o : Own w (mpI (Value.int .i64) mb m :: R)) (k : Int) (ok : Bool) :
    (Instr.lookup 124 (.map (some mb)) (.int .i64 k) ok).run Try.prog w = .ok (if ok then .tuple #[.int .i64 (tget m k), .bool (mget m k).isSome] else .int .i64 (tget m k)) w := by
  rw [run_lookup_mpI Try.underlying124 Try.underlying3 Try.zeroL o k ok]
  unfold tget
  cases mget m k <;> rfl

set_option maxHeartbeats 800000 in
set_option maxRecDepth 100000 in
theorem compNew_spec (r : Int) (h1 : 1 ≤ r) (h2 : r ≤ 1099511627776) (o : Own w R) :
    Calls Try.prog 66 #[.int .i64 r] w fun e w' => ∃ b, Ret (.tuple #[.pointer (some ⟨b, 0, none⟩), .int .i64 0]) (OrderR b r [] [] 0 :: R) w e w' := by
  have hmm := @run_makeMap Try.prog
  go_enter Try.func66, Try.ntmps66
  go_wp2
  go_ret2
  have o1 := (o.mpI_made (f := Value.int .i64)).mpI_made (f := Value.int .i64) (α := Int)
  have o2 := (o1.swap).alloc (.cells #[.int .i64 r, .map (some w.heap.size), .map (some (w.heap.size + 1)), .int .i64 0] 130)
  simp only [World.size_alloc] at o2
  exact ⟨_, rfl, OrderR.iff.2 ⟨w.heap.size, w.heap.size + 1, o2⟩, ⟨rfl, rfl, rfl⟩⟩

theorem compTag_spec (k : Int) (o : Own w (OrderR b reb el tg tm :: R)) : Calls Try.prog 81 #[.pointer (some ⟨b, 0, none⟩), .int .i64 k] w (Ret (.int .i64 (tget tg k)) (OrderR b reb el tg tm :: R) w) := by
  obtain ⟨eb, tb, o1⟩ := OrderR.iff.1 o
  have c2 := o1.cell 2
  have hlk := lookIL tb (o1.up 2) k false
  simp only [Bool.false_eq_true, if_false] at hlk
  go_enter Try.func81, Try.ntmps81
  go_wp2
  go_ret
  exact ⟨rfl, o, ⟨rfl, rfl, rfl⟩⟩

/-- The first flow with the least tag, or -1. -/
def leastL (tg : List (Int × Int)) : List Int → Int → Int
  | [], best => best
  | f :: ks, best => leastL tg ks (if best < 0 ∨ tget tg f < tget tg best then f else best)
def leastF (el tg : List (Int × Int)) : Int := leastL tg (sortK el) (-1)

def LeastRel (b eb tb : Nat) (reb tm : Int) (el tg : List (Int × Int)) (a : Option Addr) (cap : Nat) (ks : List Int) (T : Int) (R : List SP) (w : World) (v3 v13 : Value) (wr : World) : Prop :=
  ∃ (i : Nat) (best : Int), v13 = .int .i64 (i : Int) ∧ v3 = .int .i64 best ∧ i ≤ ks.length ∧ leastL tg (ks.drop i) best = T ∧ -9223372036854775808 ≤ best ∧ best ≤ 9223372036854775807 ∧
    Own wr (slc 3 1 a ks.length cap (ks.map (Value.int .i64)) :: OrdC b reb eb tb el tg tm :: R) ∧ Calm w wr

theorem sortK_length {α : Type} (m : List (Int × α)) : (sortK m).length = m.length := by unfold sortK; rw [List.length_mergeSort, List.length_map]
theorem sortK_mem {α : Type} {m : List (Int × α)} {k : Int} : k ∈ sortK m ↔ k ∈ m.map (·.1) := by unfold sortK; exact (List.mergeSort_perm _ _).mem_iff

set_option maxHeartbeats 1600000 in
set_option maxRecDepth 100000 in
theorem leastC_spec {eb tb : Nat} (hk : KeyOk el) (hn : el.length ≤ 1000) (o : Own w (OrdC b reb eb tb el tg tm :: R)) :
    Calls Try.prog 98 #[.pointer (some ⟨b, 0, none⟩)] w (Ret (.int .i64 (leastF el tg)) (OrdC b reb eb tb el tg tm :: R) w) := by
  have o1 := OrdC.iff.1 o
  have c1 := o1.cell 1
  go_enter Try.func98, Try.ntmps98
  go_wp2_with fail
  refine (keysInt_spec _ _).mono ?_
  rintro e1 w1 ⟨rfl, rfl⟩
  have o2 := ((o1.alloc (.cells #[.map (some eb)] 108)).up 2).up 1
  go_wp2_with fail
  refine (sortedInt_spec w.heap.size hk (by omega) o2).mono ?_
  rintro e2 w2 ⟨a, cap, rfl, o3, k3⟩
  have hl := sortK_length el
  have hkm : ∀ k ∈ sortK el, -9223372036854775808 ≤ k ∧ k ≤ 9223372036854775807 := fun k h => by
    obtain ⟨x, hx, rfl⟩ := List.mem_map.1 (sortK_mem.1 h)
    exact hk.2 x hx
  have hT : LeastRel b eb tb reb tm el tg a cap (sortK el) (leastF el tg) R w (.int .i64 (-1)) (.int .i64 0) w2 :=
    ⟨0, -1, rfl, rfl, Nat.zero_le _, rfl, by omega, by omega, by
      rw [hl]
      refine Own.swap (OrdC.iff.2 ?_)
      exact ((o3.up 3).up 2).up 3, ⟨k3.os, k3.tape, k3.output⟩⟩
  generalize leastF el tg = T at *
  generalize hks : sortK el = ks at *
  rw [← hl]
  have hkl : ks.length ≤ 1000 := by omega
  have Hl := Lib.hid hl
  clear hl o3 k3 o2 o1 c1 hks
  go_wp2
  go_loopw [3, 13] (fun v3 v13 wr => LeastRel b eb tb reb tm el tg a cap ks T R w v3 v13 wr) (fun _ v13 _ => ks.length - (intOf v13).toNat)
  case atStart => exact hT
  case round =>
    obtain ⟨i, best, rfl, rfl, hi, hT, hb1, hb2, oR, kR⟩ := hrel
    have HT := Lib.hid hT
    clear hT
    by_cases hlt : i < ks.length
    · obtain ⟨f, hf⟩ : ∃ f, ks[i]? = some f := ⟨_, List.getElem?_eq_getElem hlt⟩
      obtain ⟨g, rfl, hc, _, _⟩ := oR.slc_cell (by omega)
      have d0 := hc i (.int .i64 f) (by rw [List.getElem?_map, hf]; rfl)
      have hfr := hkm f (List.mem_of_getElem? hf)
      have o4 := OrdC.iff.1 (oR.up 1)
      have c2 := o4.cell 2
      have l1 := fun n => lookIL tb ((o4.up 2).drewN n) f false
      have l2 := fun n => lookIL tb ((o4.up 2).drewN n) best false
      simp only [Bool.false_eq_true, if_false] at l1 l2
      have hstep : leastL tg (ks.drop i) best = leastL tg (ks.drop (i + 1)) (if best < 0 ∨ tget tg f < tget tg best then f else best) := by
        rw [List.drop_eq_getElem_cons hlt]
        have : ks[i] = f := (List.getElem?_eq_some_iff.1 hf).2
        rw [this]; rfl
      have Hstep := Lib.hid hstep
      clear hc hstep hf
      by_cases hbn : best < 0
      · have hd : decide (best < 0) = true := by simpa using hbn
        go_wp2
        go_quiet (fail)
        go_wp2
        go_roundw
        case rel => exact ⟨i + 1, f, by go_num, rfl, by omega, by rw [← HT.out, Hstep.out, if_pos (.inl hbn)], hfr.1, hfr.2, oR.drewN _, kR.dn _⟩
        case measure => simp [intOf]; omega
      · have hd : decide (best < 0) = false := by simpa using hbn
        by_cases hlt2 : tget tg f < tget tg best
        · have hd2 : decide (tget tg f < tget tg best) = true := by simpa using hlt2
          go_wp2
          go_quiet (fail)
          go_wp2
          go_roundw
          case rel => exact ⟨i + 1, f, by go_num, rfl, by omega, by rw [← HT.out, Hstep.out, if_pos (.inr hlt2)], hfr.1, hfr.2, oR.drewN _, kR.dn _⟩
          case measure => simp [intOf]; omega
        · have hd2 : decide (tget tg f < tget tg best) = false := by simpa using hlt2
          go_wp2
          go_quiet (fail)
          go_wp2
          go_roundw
          case rel => exact ⟨i + 1, best, by go_num, rfl, by omega, by rw [← HT.out, Hstep.out, if_neg (by omega)], hb1, hb2, oR.drewN _, kR.dn _⟩
          case measure => simp [intOf]; omega
    · go_wp2
      go_ret
      have : ks.drop i = [] := List.drop_eq_nil_of_le (by omega)
      have hTb : best = T := by rw [← HT.out, this]; rfl
      exact ⟨by rw [hTb]; rfl, oR.drop, kR⟩
theorem least_spec (hk : KeyOk el) (hn : el.length ≤ 1000) (o : Own w (OrderR b reb el tg tm :: R)) :
    Calls Try.prog 98 #[.pointer (some ⟨b, 0, none⟩)] w (Ret (.int .i64 (leastF el tg)) (OrderR b reb el tg tm :: R) w) := by
  obtain ⟨eb, tb, o1⟩ := OrderR.ordC.1 o
  exact (leastC_spec hk hn o1).mono fun e w' ⟨h1, h2, h3⟩ => ⟨h1, OrderR.ordC.2 ⟨eb, tb, h2⟩, h3⟩
end
end Go.Proofs.Ytkmlkpfabkhleaa

/- The order of comp: Select, Eligible, Forget. -/
namespace Go.Proofs.Ytkmlkpfabkhleaa
open Go.RowKit
open SP

section
variable {W w w' : World} {b : Nat} {reb tm : Int} {el tg : List (Int × Int)} {R : List SP}

theorem leastL_range (tg : List (Int × Int)) : ∀ (ks : List Int) (best : Int), (∀ k ∈ ks, 0 ≤ k) → leastL tg ks best = best ∨ leastL tg ks best ∈ ks
  | [], best, _ => .inl rfl
  | f :: ks, best, h => by
    unfold leastL
    rcases leastL_range tg ks (if best < 0 ∨ tget tg f < tget tg best then f else best) (fun k hk => h k (by simp [hk])) with h1 | h1
    · rw [h1]
      split
      · exact .inr (by simp)
      · exact .inl rfl
    · exact .inr (by simp [h1])

def selV (el tg : List (Int × Int)) : Value := if leastF el tg < 0 then .tuple #[.int .i64 0, .int .i64 5] else .tuple #[.int .i64 (leastF el tg), .int .i64 0]

set_option maxHeartbeats 800000 in
set_option maxRecDepth 100000 in
theorem select_spec (hk : KeyOk el) (hn : el.length ≤ 1000) (o : Own w (OrderR b reb el tg tm :: R)) :
    Calls Try.prog 75 #[.pointer (some ⟨b, 0, none⟩)] w (Ret (selV el tg) (OrderR b reb el tg tm :: R) w) := by
  have hls := least_spec hk hn o
  unfold selV
  generalize leastF el tg = x at *
  by_cases h : x < 0
  · rw [if_pos h]
    go_enter Try.func75, Try.ntmps75
    go_wp2_with fail
    refine hls.mono ?_
    rintro e1 w1 ⟨rfl, o1, k1⟩
    go_wp2
    go_ret2
    exact ⟨rfl, o1, k1⟩
  · rw [if_neg h]
    go_enter Try.func75, Try.ntmps75
    go_wp2_with fail
    refine hls.mono ?_
    rintro e1 w1 ⟨rfl, o1, k1⟩
    go_wp2
    go_ret2
    exact ⟨rfl, o1, k1⟩

/-! ### Eligible -/
def eligBad : Int → List (Int × Int) → Bool
  | _, [] => false
  | last, p :: l => decide (p.1 ≤ last) || decide (32 ≤ p.1) || decide (p.2 < 1) || decide (16 < p.2) || eligBad p.1 l
def eligTg (el : List (Int × Int)) (tm : Int) : List (Int × Int) → List (Int × Int) → List (Int × Int)
  | [], tg => tg
  | p :: l, tg => eligTg el tm l (if (mget el p.1).isSome then tg else mput tg p.1 (max (tget tg p.1) tm))
def eligEl : List (Int × Int) → List (Int × Int) → List (Int × Int)
  | [], m => m
  | p :: l, m => eligEl l (mput m p.1 p.2)

def EligRes (b : Nat) (reb tm : Int) (el tg : List (Int × Int)) (l : List (Int × Int)) (S : SP) (R : List SP) (w : World) (e : Ending) (w' : World) : Prop :=
  if eligBad (-1) l = true then Ret (.int .i64 1) (S :: OrderR b reb el tg tm :: R) w e w' else Ret (.int .i64 0) (S :: OrderR b reb (eligEl l []) (eligTg el tm l tg) tm :: R) w e w'

def ElRel1 (b : Nat) (reb tm : Int) (el tg l : List (Int × Int)) (B : Bool) (S : SP) (R : List SP) (w : World) (v5 v15 : Value) (wr : World) : Prop :=
  ∃ (i : Nat) (last : Int), v15 = .int .i64 (i : Int) ∧ v5 = .int .i64 last ∧ i ≤ l.length ∧ eligBad last (l.drop i) = B ∧ Own wr (S :: OrderR b reb el tg tm :: R) ∧ Calm w wr

def ElRel2 (b : Nat) (reb tm : Int) (el l : List (Int × Int)) (TG EL : List (Int × Int)) (eb : Nat) (S : SP) (R : List SP) (w : World) (v44 : Value) (wr : World) : Prop :=
  ∃ (i : Nat) (tg' m : List (Int × Int)), v44 = .int .i64 (i : Int) ∧ i ≤ l.length ∧ eligTg el tm (l.drop i) tg' = TG ∧ eligEl (l.drop i) m = EL ∧ Own wr (S :: OrderR b reb el tg' tm :: mpI (Value.int .i64) eb m :: R) ∧ Calm w wr

theorem eligBad_step {last : Int} {p : Int × Int} {l : List (Int × Int)} : eligBad last (p :: l) = true ↔ p.1 ≤ last ∨ 32 ≤ p.1 ∨ p.2 < 1 ∨ 16 < p.2 ∨ eligBad p.1 l = true := by
  simp [eligBad, or_assoc]

set_option maxHeartbeats 3200000 in
set_option maxRecDepth 100000 in
theorem eligibleG_spec (S : SP) (a : Option Addr) (n c : Nat) (l : List (Int × Int)) (hS : PartsAt S a l) (hn : n = l.length) (hn2 : n ≤ 1000) (o : Own w (S :: OrderR b reb el tg tm :: R)) :
    Calls Try.prog 34 #[.pointer (some ⟨b, 0, none⟩), .slice a n c] w (EligRes b reb tm el tg l S R w) := by
  have hmm := @run_makeMap Try.prog
  have hT : ElRel1 b reb tm el tg l (eligBad (-1) l) S R w (.int .i64 (-1)) (.int .i64 0) w := ⟨0, -1, rfl, rfl, by omega, rfl, o, Calm.refl w⟩
  generalize hBB : eligBad (-1) l = B at *
  have HBB := Lib.hid hBB
  clear hBB
  have Hn := Lib.hid hn
  clear hn
  go_enter Try.func34, Try.ntmps34
  go_wp2
  go_loopw [5, 15] (fun v5 v15 wr => ElRel1 b reb tm el tg l B S R w v5 v15 wr) (fun _ v15 _ => n - (intOf v15).toNat)
  case atStart => exact hT
  case round =>
    obtain ⟨i, last, rfl, rfl, hi, hB, oR, kR⟩ := hrel
    have HB := Lib.hid hB
    clear hB
    by_cases hlt : i < n
    · obtain ⟨p, hp⟩ : ∃ p, l[i]? = some p := ⟨_, List.getElem?_eq_getElem (by have := Hn.out; omega)⟩
      obtain ⟨g, so, rfl, d0, d1⟩ := hS _ _ oR i _ hp
      have hd := drop_cons hp
      have HD := Lib.hid hd
      obtain ⟨x, y⟩ := p
      dsimp only at d0 d1
      clear hd hp
      have oA := (oR.alloc (.cells #[.int .i64 x, .int .i64 y] 134))
      have e0 := Own.cell (T := 134) (vs := [.int .i64 x, .int .i64 y]) oA 0
      have e1 := Own.cell (T := 134) (vs := [.int .i64 x, .int .i64 y]) oA 1
      by_cases h1 : x ≤ last
      · go_wp2
        go_ret
        have this : eligBad (-1) l = true := HBB.out.trans (by rw [← HB.out, HD.out, eligBad_step]; exact .inl h1)
        rw [EligRes, if_pos this]
        exact ⟨rfl, oA.drop, ⟨kR.os, kR.tape, kR.output⟩⟩
      · by_cases h2 : 32 ≤ x
        · go_wp2
          go_ret
          have this : eligBad (-1) l = true := HBB.out.trans (by rw [← HB.out, HD.out, eligBad_step]; exact .inr (.inl h2))
          rw [EligRes, if_pos this]
          exact ⟨rfl, oA.drop, ⟨kR.os, kR.tape, kR.output⟩⟩
        · by_cases h3 : y < 1
          · go_wp2
            go_ret
            have this : eligBad (-1) l = true := HBB.out.trans (by rw [← HB.out, HD.out, eligBad_step]; exact .inr (.inr (.inl h3)))
            rw [EligRes, if_pos this]
            exact ⟨rfl, oA.drop, ⟨kR.os, kR.tape, kR.output⟩⟩
          · by_cases h4 : 16 < y
            · go_wp2
              go_ret
              have this : eligBad (-1) l = true := HBB.out.trans (by rw [← HB.out, HD.out, eligBad_step]; exact .inr (.inr (.inr (.inl h4))))
              rw [EligRes, if_pos this]
              exact ⟨rfl, oA.drop, ⟨kR.os, kR.tape, kR.output⟩⟩
            · go_wp2
              go_roundw
              case rel =>
                refine ⟨i + 1, x, by go_num, rfl, by have := Hn.out; omega, ?_, oA.drop, ⟨kR.os, kR.tape, kR.output⟩⟩
                rw [← HB.out, HD.out]
                rw [Bool.eq_iff_iff, eligBad_step]
                constructor
                · exact fun h => .inr (.inr (.inr (.inr h)))
                · rintro (h | h | h | h | h)
                  · exact absurd h h1
                  · exact absurd h h2
                  · exact absurd h h3
                  · exact absurd h h4
                  · exact h
              case measure => simp [intOf]; omega
    · have hBf : eligBad (-1) l = false := by rw [HBB.out, ← HB.out, List.drop_eq_nil_of_le (by have := Hn.out; omega)]; rfl
      have HBf := Lib.hid hBf
      clear hBf
      have o2 := ((oR.mpI_made (f := Value.int .i64) (α := Int)).up 2).up 2
      have hT2 : ElRel2 b reb tm el l (eligTg el tm l tg) (eligEl l []) wr.heap.size S R w (.int .i64 0) (wr.alloc (.map #[] 0)) :=
        ⟨0, tg, [], rfl, by omega, rfl, rfl, o2, ⟨kR.os, kR.tape, kR.output⟩⟩
      generalize h1 : eligTg el tm l tg = TG at *
      generalize h2 : eligEl l [] = EL at *
      have H1 := Lib.hid h1
      have H2 := Lib.hid h2
      clear h1 h2
      clear o2 HB hi
      obtain ⟨nb, hnb⟩ : ∃ nb, nb = wr.heap.size := ⟨_, rfl⟩
      have HNB := Lib.hid hnb
      clear hnb
      go_wp2
      go_loopw [44] (fun v44 wr' => ElRel2 b reb tm el l TG EL wr.heap.size S R w v44 wr') (fun v44 _ => n - (intOf v44).toNat)
      case atStart => exact hT2
      case round =>
        clear hT2 hT oR kR hmm
        obtain ⟨i, tg', m, rfl, hi, hTG, hEL, oR, kR⟩ := hrel
        have HTG := Lib.hid hTG
        have HEL := Lib.hid hEL
        clear hTG hEL
        by_cases hlt : i < n
        · obtain ⟨p, hp⟩ : ∃ p, l[i]? = some p := ⟨_, List.getElem?_eq_getElem (by have := Hn.out; omega)⟩
          obtain ⟨g, so, rfl, d0, d1⟩ := hS _ _ oR i _ hp
          have hd := drop_cons hp
          have HD := Lib.hid hd
          obtain ⟨x, y⟩ := p
          dsimp only at d0 d1
          clear hd hp
          obtain ⟨eb', tb', oB⟩ := OrderR.iff.1 (oR.up 1)
          have oA := (oB.alloc (.cells #[.int .i64 x, .int .i64 y] 134))
          have e0 := fun k => Own.cell (T := 134) (vs := [.int .i64 x, .int .i64 y]) (oA.drewN k) 0
          have e1 := fun k => Own.cell (T := 134) (vs := [.int .i64 x, .int .i64 y]) (oA.drewN k) 1
          have hbl := oB.celLt
          have hfr := oB.frozen
          have c1 := oB.cell 1
          have c2 := oB.cell 2
          have c3 := oB.cell 3
          have l1 := fun n => lookII eb' ((oA.up 2).drewN n) x true
          simp only [if_true] at l1
          cases hin : (mget el x).isSome with
          | true =>
            rw [hin] at l1
            go_wp2
            go_quiet (fail)
            go_wp2_with (at_mapUpdate; refine wpList_mapUpdate_mpI rfl _ _ _ rfl Try.underlying108 Try.underlying3 ((oA.drewN _).up 5) x y rfl rfl rfl ?_; intro w1 o6 k6)
            go_roundw
            case rel =>
              refine ⟨i + 1, tg', mput m x y, by go_num, by have := Hn.out; omega, ?_, ?_, ?_, kR.trans ⟨k6.os, k6.tape, k6.output⟩⟩
              · rw [← HTG.out, HD.out, eligTg, if_pos hin]
              · rw [← HEL.out, HD.out]; rfl
              · exact (OrderR.iff.2 ⟨eb', tb', ((((o6.up 1).drop.up 4).up 4).up 4).up 4⟩).up 1
            case measure => simp [intOf]; omega
          | false =>
            rw [hin] at l1
            have l2 := fun n => lookIL tb' ((oA.up 3).drewN n) x false
            simp only [Bool.false_eq_true, if_false] at l2
            go_wp2
            go_quiet (fail)
            go_wp2
            refine wp_region_tail 18 (by kernel_rfl) (by kernel_rfl) ?_
            simp only [List.take_succ_cons, List.take_zero, List.drop_succ_cons, List.drop_zero]
            repeat still_step
            refine wpStill_nil ?_
            go_wp2_with (at_mapUpdate; refine wpList_mapUpdate_mpI rfl _ _ _ rfl Try.underlying124 Try.underlying3 (((oA.up 3).drewN _).drew) x (max (tget tg' x) tm) rfl rfl rfl ?c1)
            case c1 =>
            intro w1 o6 k6
            have q := o6.up 1
            have q0 := Own.cell (T := 134) (vs := [.int .i64 x, .int .i64 y]) q 0
            have q1 := Own.cell (T := 134) (vs := [.int .i64 x, .int .i64 y]) q 1
            go_wp2_with (at_mapUpdate; refine wpList_mapUpdate_mpI rfl _ _ _ rfl Try.underlying108 Try.underlying3 (q.up 5) x y rfl rfl rfl ?_; intro w2 o7 k7)
            go_roundw
            case rel =>
              refine ⟨i + 1, mput tg' x (max (tget tg' x) tm), mput m x y, by go_num, by have := Hn.out; omega, ?_, ?_, ?_, kR.trans (Calm.trans ⟨k6.os, k6.tape, k6.output⟩ k7)⟩
              · rw [← HTG.out, HD.out, eligTg, if_neg (by rw [hin]; simp)]
              · rw [← HEL.out, HD.out]; rfl
              · have o8 := (o7.up 1).drop
                exact (OrderR.iff.2 ⟨eb', tb', (((o8.up 4).up 2).up 4).up 4⟩).up 1
            case measure => simp [intOf]; omega
        · obtain ⟨eb', tb', oB⟩ := OrderR.iff.1 (oR.up 1)
          have hbl := oB.celLt
          have hfr := oB.frozen
          have c1 := oB.cell 1
          go_wp2
          go_ret
          have hdn : l.drop i = [] := List.drop_eq_nil_of_le (by have := Hn.out; omega)
          rw [EligRes, if_neg (by rw [HBf.out]; simp)]
          refine ⟨rfl, ?_, ⟨kR.os, kR.tape, kR.output⟩⟩
          have e1 : tg' = TG := by rw [← HTG.out, hdn]; rfl
          have e2 : m = EL := by rw [← HEL.out, hdn]; rfl
          rw [H1.out, H2.out, ← e1, ← e2]
          have o9 := oB.setCell 1 (.map (some nb))
          rw [HNB.out] at o9
          exact (OrderR.iff.2 ⟨_, tb', (((((o9.up 1).drop).up 2).up 2).up 3).up 3⟩).up 1

theorem eligible_spec (a : Option Addr) (n c : Nat) (l : List (Int × Int)) (hn : n = l.length) (hn2 : n ≤ 1000) (o : Own w (slc 134 2 a n c (flat part l) :: OrderR b reb el tg tm :: R)) :
    Calls Try.prog 34 #[.pointer (some ⟨b, 0, none⟩), .slice a n c] w (EligRes b reb tm el tg l (slc 134 2 a n c (flat part l)) R w) :=
  eligibleG_spec _ a n c l (partsAt_slc a n c l hn) hn hn2 o

end
end Go.Proofs.Ytkmlkpfabkhleaa

/- The order of comp: Serve. -/
namespace Go.Proofs.Ytkmlkpfabkhleaa
open Go.RowKit
open SP

section
variable {W w w' : World} {b : Nat} {reb tm : Int} {el tg : List (Int × Int)} {R : List SP}

def servFin (el tg : List (Int × Int)) (f len : Int) : Int × Int := finF (tget tg f) len (tget el f)
def servE (el tg : List (Int × Int)) (f len : Int) : Int := if (mget el f).isSome then (servFin el tg f len).2 else 6
def servTg (el tg : List (Int × Int)) (f len : Int) : List (Int × Int) := mput tg f (servFin el tg f len).1
def servTm (tg : List (Int × Int)) (tm f : Int) : Int := max tm (tget tg f)
def servBy (el tg : List (Int × Int)) (tm f len : Int) : Int := min (servTm tg tm f) (tget (servTg el tg f len) (leastF el (servTg el tg f len)))
def lower (by_ : Int) (tg : List (Int × Int)) : List (Int × Int) := tg.map fun x => (x.1, max (x.2 - by_) 0)
def ServPost (b : Nat) (reb tm : Int) (el tg : List (Int × Int)) (f len : Int) (R : List SP) (w : World) (e : Ending) (w' : World) : Prop :=
  if servE el tg f len ≠ 0 then Ret (.int .i64 (servE el tg f len)) (OrderR b reb el tg tm :: R) w e w' else
  if servBy el tg tm f len < reb then Ret (.int .i64 0) (OrderR b reb el (servTg el tg f len) (servTm tg tm f) :: R) w e w' else
  Ret (.int .i64 0) (OrderR b reb el (lower (servBy el tg tm f len) (servTg el tg f len)) (servTm tg tm f - servBy el tg tm f len) :: R) w e w'

theorem tget_range {tg : List (Int × Int)} (hv : ∀ x ∈ tg, 0 ≤ x.2 ∧ x.2 ≤ 1099511627776) (f : Int) : 0 ≤ tget tg f ∧ tget tg f ≤ 1099511627776 := by
  unfold tget
  cases h : mget tg f with
  | none => simp
  | some v => exact hv _ (mem_of_mget h)
theorem mput_mem {α : Type} {m : List (Int × α)} {k : Int} {v : α} {x : Int × α} (h : x ∈ mput m k v) : x ∈ m ∨ x = (k, v) := by
  induction m with
  | nil => simp [mput] at h; exact .inr h
  | cons y m ih =>
    obtain ⟨k', v'⟩ := y
    unfold mput at h
    split at h
    · rcases List.mem_cons.1 h with rfl | h
      · exact .inr rfl
      · exact .inl (List.mem_cons_of_mem _ h)
    · rcases List.mem_cons.1 h with rfl | h
      · exact .inl (by simp)
      · rcases ih h with h | h
        · exact .inl (List.mem_cons_of_mem _ h)
        · exact .inr h
theorem mput_range {tg : List (Int × Int)} {f nx : Int} (hv : ∀ x ∈ tg, 0 ≤ x.2 ∧ x.2 ≤ 1099511627776) (hn : 0 ≤ nx ∧ nx ≤ 1099511627776) : ∀ x ∈ mput tg f nx, 0 ≤ x.2 ∧ x.2 ≤ 1099511627776 := by
  intro x hx
  rcases mput_mem hx with h | rfl
  · exact hv x h
  · exact hn
theorem finF_range {was len wt : Int} (hw : 0 ≤ was ∧ was ≤ 1099511627776) : 0 ≤ (finF was len wt).1 ∧ (finF was len wt).1 ≤ 1099511627776 := by
  unfold finF
  split
  · simp
  · rename_i h
    have h' : 1 ≤ len ∧ len ≤ 4096 ∧ 1 ≤ wt ∧ wt ≤ 16 := by
      have h1 : ¬ badLW len wt := fun h2 => h (.inl h2)
      unfold badLW at h1; omega
    obtain ⟨c1, c2⟩ := cst_range h'.2.2.1 h'.2.2.2 h'.1 h'.2.1
    split
    · simp
    · simp only; omega

def Serv2 (b : Nat) (reb : Int) (el tg1 : List (Int × Int)) (tm1 by_ : Int) (R : List SP) (w : World) (e : Ending) (w' : World) : Prop :=
  if by_ < reb then Ret (.int .i64 0) (OrderR b reb el tg1 tm1 :: R) w e w' else Ret (.int .i64 0) (OrderR b reb el (lower by_ tg1) (tm1 - by_) :: R) w e w'

/-- The range lowers every tag. -/
def lowered (by_ : Int) (S : Int → Bool) (tg : List (Int × Int)) : List (Int × Int) := tg.map fun x => (x.1, if S x.1 then max (x.2 - by_) 0 else x.2)

theorem lowered_keys (by_ : Int) (S : Int → Bool) (tg : List (Int × Int)) : (lowered by_ S tg).map (·.1) = tg.map (·.1) := by
  unfold lowered; rw [List.map_map]; rfl
theorem lowered_all {by_ : Int} {S : Int → Bool} {tg : List (Int × Int)} (h : ∀ x ∈ tg, S x.1 = true) : lowered by_ S tg = lower by_ tg := by
  unfold lowered lower
  exact List.map_congr_left fun x hx => by rw [h x hx, if_pos rfl]
theorem lowered_put {by_ : Int} {S : Int → Bool} : ∀ {tg : List (Int × Int)} (_ : Uniq tg) {k v : Int} (_ : mget tg k = some v), mput (lowered by_ S tg) k (max (v - by_) 0) = lowered by_ (fun z => S z || z == k) tg
  | [], _, k, v, h => by simp [mget] at h
  | (k0, v0) :: tg, hu, k, v, h => by
    unfold Uniq at hu
    rw [List.map_cons, List.nodup_cons] at hu
    unfold mget at h
    unfold lowered
    simp only [List.map_cons]
    unfold mput
    by_cases hk : k = k0
    · subst hk
      rw [if_pos rfl] at h ⊢
      simp at h
      subst h
      simp only [BEq.rfl, Bool.or_true, if_true, List.cons.injEq, true_and]
      refine List.map_congr_left fun x hx => ?_
      have hne : x.1 ≠ k := fun e => hu.1 (List.mem_map.2 ⟨x, hx, e⟩)
      have : (x.1 == k) = false := by simpa using hne
      simp only [this, Bool.or_false]
    · rw [if_neg hk] at h ⊢
      have hb : (k0 == k) = false := by simpa using Ne.symm hk
      simp only [hb, Bool.or_false, List.cons.injEq, true_and]
      exact lowered_put hu.2 h
theorem mget_lowered {by_ : Int} {S : Int → Bool} : ∀ {tg : List (Int × Int)} (k : Int), mget (lowered by_ S tg) k = (mget tg k).map (fun v => if S k then max (v - by_) 0 else v)
  | [], k => rfl
  | (k0, v0) :: tg, k => by
    unfold lowered
    simp only [List.map_cons]
    unfold mget
    by_cases hk : k = k0
    · subst hk; simp
    · rw [if_neg hk, if_neg hk]; exact mget_lowered k

def LowRel (b : Nat) (reb : Int) (eb tb ib : Nat) (el tg1 : List (Int × Int)) (tm1 by_ : Int) (R : List SP) (w wr : World) : Prop :=
  ∃ (S : Int → Bool) (cur : Option Int) (m : List (Int × Int)), True = True ∧ m = lowered by_ S tg1 ∧
    Own wr (rng (Value.int .i64) tb ib m S cur :: cel b 130 [.int .i64 reb, .map (some eb), .map (some tb), .int .i64 tm1] :: mpI (Value.int .i64) eb el :: R) ∧ Calm w wr

set_option maxHeartbeats 3200000 in
set_option maxRecDepth 100000 in
theorem serve_spec (f len : Int) (hk : KeyOk el) (hn : el.length ≤ 1000) (hu : Uniq tg) (hv : ∀ x ∈ tg, 0 ≤ x.2 ∧ x.2 ≤ 1099511627776) (ht : 0 ≤ tm ∧ tm ≤ 1099511627776) (o : Own w (OrderR b reb el tg tm :: R)) :
    Calls Try.prog 79 #[.pointer (some ⟨b, 0, none⟩), .int .i64 f, .int .i64 len] w (ServPost b reb tm el tg f len R w) := by
  obtain ⟨eb, tb, o1⟩ := OrderR.iff.1 o
  have c1 := o1.cell 1
  have c2 := o1.cell 2
  have hlk := lookII eb (o1.up 1) f true
  simp only [if_true] at hlk
  cases hel : mget el f with
  | none =>
    have e1 : servE el tg f len = 6 := by unfold servE; rw [hel]; rfl
    have : ServPost b reb tm el tg f len R w = Ret (.int .i64 6) (OrderR b reb el tg tm :: R) w := by
      funext e w'; unfold ServPost; rw [e1, if_pos (by decide)]
    rw [this]; clear this
    rw [hel] at hlk
    go_enter Try.func79, Try.ntmps79
    go_wp2
    go_ret
    exact ⟨rfl, o, Calm.refl w⟩
  | some wt =>
    have hls : (mget el f).isSome = true := by rw [hel]; rfl
    have e1 : servE el tg f len = (servFin el tg f len).2 := if_pos hls
    rw [hel] at hlk
    have hl2 := lookIL tb (o1.up 2) f false
    simp only [Bool.false_eq_true, if_false] at hl2
    have hfin := finish_spec (tget tg f) len (tget el f) w
    have H0 : servFin el tg f len = finF (tget tg f) len (tget el f) := rfl
    rw [← H0] at hfin
    clear H0
    have hwas : 0 ≤ tget tg f ∧ tget tg f ≤ 1099511627776 := tget_range hv f
    have hnx : 0 ≤ (servFin el tg f len).1 ∧ (servFin el tg f len).1 ≤ 1099511627776 := finF_range hwas
    cases hP : servFin el tg f len with
    | mk nx er =>
    rw [hP] at hfin hnx e1
    dsimp only at hnx e1
    unfold pairV at hfin
    dsimp only at hfin
    by_cases her : er = 0
    · subst her
      have hm1 : servTg el tg f len = mput tg f nx := by unfold servTg; rw [hP]
      have hm2 : servTm tg tm f = max tm (tget tg f) := rfl
      have hpost : ServPost b reb tm el tg f len R w = Serv2 b reb el (servTg el tg f len) (servTm tg tm f) (servBy el tg tm f len) R w := by
        funext e w'; unfold ServPost Serv2; rw [e1, if_neg (by simp)]
      have hb0 : servBy el tg tm f len = min (servTm tg tm f) (tget (servTg el tg f len) (leastF el (servTg el tg f len))) := rfl
      have hu1 : Uniq (servTg el tg f len) := by rw [hm1]; exact hu.mput _ _
      have hv1 : ∀ x ∈ servTg el tg f len, 0 ≤ x.2 ∧ x.2 ≤ 1099511627776 := by rw [hm1]; exact mput_range hv hnx
      have ht1 : 0 ≤ servTm tg tm f ∧ servTm tg tm f ≤ 1099511627776 := by rw [hm2]; omega
      have hby : 0 ≤ servBy el tg tm f len ∧ servBy el tg tm f len ≤ 1099511627776 := by
        have := tget_range hv1 (leastF el (servTg el tg f len)); rw [hb0]; omega
      rw [hpost]
      clear hpost hP e1
      generalize servTg el tg f len = tg1 at *
      generalize servTm tg tm f = tm1 at *
      generalize servBy el tg tm f len = by_ at *
      have HM1 := Lib.hid hm1
      have HM2 := Lib.hid hm2
      have HB0 := Lib.hid hb0
      clear hm1 hm2 hb0
      go_enter Try.func79, Try.ntmps79
      go_wp2_with fail
      refine hfin.mono ?_
      rintro e2 w2 ⟨rfl, rfl⟩
      go_wp2_with (at_mapUpdate; refine wpList_mapUpdate_mpI rfl _ _ _ rfl Try.underlying124 Try.underlying3 (o1.up 2) f nx rfl rfl rfl ?k1)
      case k1 =>
      intro w3 o3 k3
      rw [← HM1.out] at o3
      have o4 := o3.up 1
      have c3 := o4.cell 3
      have hf := o4.frozen
      have hlt := o4.celLt
      have hmx : max tm (tget tg f) = tm1 := HM2.out.symm
      have o5 := o4.setCell 3 (.int .i64 tm1)
      have o6 : Own ((w3.setCell ⟨b, 3, none⟩ (.int .i64 tm1)).drew) (OrdC b reb eb tb el tg1 tm1 :: R) := OrdC.iff.2 ((o5.up 2).up 1 |>.drew)
      clear c1 c2 hlk hl2
      have d2 := o5.cell 2
      have d3 := o5.cell 3
      have hmn : min tm1 (tget tg1 (leastF el tg1)) = by_ := HB0.out.symm
      go_wp2
      go_region_held3 (fun w' => w'.cell? ⟨b, 2, none⟩ = some (.map (some tb)) ∧ w'.cell? ⟨b, 3, none⟩ = some (.int .i64 tm1)) (go_keep) (first
        | (go_at_call 98; (with_reducible refine (leastC_spec hk hn o6).mono ?_); rintro e4 w4 ⟨rfl, o7, k7⟩; have q2 := (OrdC.iff.1 o7).cell 2; have q3 := (OrdC.iff.1 o7).cell 3; have l7 := lookIL tb ((OrdC.iff.1 o7).up 2) (leastF el tg1) false; simp only [Bool.false_eq_true, if_false] at l7))
      have o8 := OrdC.iff.1 o7
      have q0 := o8.cell 0
      have K7 : Calm w w4 := k3.trans ⟨k7.os, k7.tape, k7.output⟩
      clear l7 d2 d3 hmn hmx c3 hf hlt
      by_cases hcmp : by_ < reb
      · go_wp2
        go_ret
        rw [Serv2, if_pos hcmp]
        exact ⟨rfl, OrderR.iff.2 ⟨eb, tb, o8⟩, K7⟩
      · obtain ⟨w5, hr5, o9, k9⟩ := run_range_mpI (P := Try.prog) Try.underlying124 (o8.up 2)
        have hT : LowRel b reb eb tb w4.heap.size el tg1 tm1 by_ R w w5 := ⟨fun _ => false, none, tg1, rfl, by unfold lowered; simp, o9, K7.trans k9⟩
        have qr2 := (o9.up 1).cell 2
        generalize hib : w4.heap.size = ib at *
        clear hib
        go_wp2
        go_loopw [13] (fun _ wr => LowRel b reb eb tb ib el tg1 tm1 by_ R w wr) (fun _ wr => rleft wr tb ib)
        case atStart => exact hT
        case round =>
          obtain ⟨S, cur, m, _, hm, oR, kR⟩ := hrel
          have Hm := Lib.hid hm
          have hkm : m.map (·.1) = tg1.map (·.1) := by rw [hm, lowered_keys]
          have hum : Uniq m := by unfold Uniq; rw [hkm]; exact hu1
          clear hm
          have g0 := (oR.up 1).cell 2
          rcases run_next_rng (P := Try.prog) 0 hum oR with ⟨hd, hr⟩ | ⟨x, w6, hx, hS, hr, o10, k10⟩
          · have g3 := (oR.up 1).cell 3
            have gf := (oR.up 1).frozen
            have gb := (oR.up 1).celLt
            have oD := (oR.rng_done.up 1).setCell 3 (.int .i64 (tm1 - by_))
            have hall : ∀ x ∈ tg1, S x.1 = true := fun x hx => by
              have : x.1 ∈ m.map (·.1) := by rw [hkm]; exact List.mem_map.2 ⟨x, hx, rfl⟩
              obtain ⟨y, hy, hyx⟩ := List.mem_map.1 this
              rw [← hyx]; exact hd y hy
            rw [Hm.out, lowered_all hall] at oD
            clear hd
            go_wp2
            go_ret
            rw [Serv2, if_neg (by omega)]
            exact ⟨rfl, OrderR.iff.2 ⟨eb, tb, oD.up 2 |>.up 1⟩, ⟨kR.os, kR.tape, kR.output⟩⟩
          · obtain ⟨key, val⟩ := x
            dsimp only at hS hr o10
            have hmv : mget m key = some val := mget_mem hum hx
            have hmt : mget tg1 key = some val := by
              rw [Hm.out, mget_lowered] at hmv
              simp only [hS, Bool.false_eq_true, if_false, Option.map_eq_some_iff, exists_eq_right] at hmv
              exact hmv
            have hvr := hv1 _ (mem_of_mget hmt)
            dsimp only at hvr
            have hen := run_entry_rng (P := Try.prog) hum o10 hmv
            have g6 := (o10.up 1).cell 2
            have hin : (mget m key).isSome = true := by rw [hmv]; rfl
            have Hmv := Lib.hid hmv
            have Hin := Lib.hid hin
            have Hmt := Lib.hid hmt
            clear hmv hin hmt
            go_wp2_with (at_mapUpdate; refine wpList_mapUpdate_rng rfl _ _ _ rfl Try.underlying124 Try.underlying3 hum o10 key (max (val - by_) 0) Hin.out rfl rfl rfl ?k2)
            case k2 =>
            intro w7 o11 k11
            go_wp2
            go_roundw
            case rel =>
              refine ⟨_, _, _, rfl, ?_, o11, (kR.trans k10).trans k11⟩
              rw [Hm.out]; exact lowered_put hu1 Hmt.out
            case measure =>
              rw [o11.rleft, oR.rleft, kleft_mput (List.mem_map.2 ⟨_, hx, rfl⟩)]
              exact kleft_lt hx hS
    · have hpost : ServPost b reb tm el tg f len R w = Ret (.int .i64 er) (OrderR b reb el tg tm :: R) w := by
        funext e w'; unfold ServPost; rw [e1, if_pos her]
      rw [hpost]
      have her' : (er == 0) = false := by simpa using her
      clear hpost e1 her hP
      go_enter Try.func79, Try.ntmps79
      go_wp2_with fail
      refine hfin.mono ?_
      rintro e2 w2 ⟨rfl, rfl⟩
      go_wp2
      go_ret
      exact ⟨rfl, o, Calm.refl w⟩
end
end Go.Proofs.Ytkmlkpfabkhleaa

/- Cifq, plain: what a slot decides and how the accounts change. -/
namespace Go.Proofs.Ytkmlkpfabkhleaa
open Go.RowKit
/-- The head of a flow. -/
structure Head where
  f : Int
  len : Int
  good : Bool
/-- An order: the eligible flows with their weights, tags, time. -/
structure Ord where
  el : List (Int × Int)
  tg : List (Int × Int)
  tm : Int
structure Cq where
  R : St
  D : List Tg
  C : Ord
  X : Ord
  n : List (Int × (Int × Int))
structure Chc where
  ch : Int
  sv : Int
  why : Int
instance : DecidableEq Chc := fun a b => decidable_of_iff (a.ch = b.ch ∧ a.sv = b.sv ∧ a.why = b.why) ⟨fun ⟨h1, h2, h3⟩ => by cases a; cases b; simp_all, fun h => by rw [h]; exact ⟨rfl, rfl, rfl⟩⟩
def chV (c : Chc) : Value := .agg #[.int .i64 c.ch, .int .i64 c.sv, .int .i64 c.why]
def ch0 : Chc := ⟨0, 0, 0⟩
def chIdle : Chc := ⟨-1, -1, 6⟩
def eligO (o : Ord) (l : List (Int × Int)) : Ord := ⟨eligEl l [], eligTg o.el o.tm l o.tg, o.tm⟩
def servO (reb : Int) (o : Ord) (f len : Int) : Int × Ord :=
  if servE o.el o.tg f len ≠ 0 then (servE o.el o.tg f len, o) else
  if servBy o.el o.tg o.tm f len < reb then (0, ⟨o.el, servTg o.el o.tg f len, servTm o.tg o.tm f⟩) else
  (0, ⟨o.el, lower (servBy o.el o.tg o.tm f len) (servTg o.el o.tg f len), servTm o.tg o.tm f - servBy o.el o.tg o.tm f len⟩)
/-- The lag of a flow; 0 of a flow that is not there. -/
def lagO (D : List Tg) (f : Int) : Int := ((fget D f).map (·.s)).getD 0
def cntO (n : List (Int × (Int × Int))) (f : Int) : Int × Int := (mget n f).getD (0, 0)
def fitsH (L : List Tg) (H : List Head) : Bool := decide (H.map (·.f) = L.map (·.f)) && H.all fun h => decide (1 ≤ h.len ∧ h.len ≤ 4096)
/-- The parts of the flows whose heads have a property. -/
def pickH (D : List Tg) (p : Head → Bool) (H : List Head) : List (Int × Int) := ((H.zip (ptsOf D)).filter fun x => p x.1).map (·.2)
def allH (D : List Tg) (H : List Head) : List (Int × Int) := pickH D (fun h => h.good) H
def lagH (D : List Tg) (H : List Head) : List (Int × Int) := pickH D (fun h => h.good && decide (0 < lagO D h.f)) H
def headOf (H : List Head) (f : Int) : Head := (H.find? fun h => h.f == f).getD ⟨0, 0, false⟩
/-- Whether a leading flow keeps its slot. -/
def keepsO (num den : Int) (c : Int × Int) : Bool := decide (c.2 * den ≤ num * c.1)
def chooseC (num den : Int) (s : Cq) (H : List Head) (some_ : Bool) : Chc :=
  let k := (selT s.R.L).1
  let can := (headOf H k).good
  if (can && (!decide (lagO s.D k < 0) || keepsO num den (cntO s.n k))) = true then ⟨k, k, 1⟩
  else if 0 ≤ leastF s.C.el s.C.tg then ⟨k, leastF s.C.el s.C.tg, if can = true then 2 else 3⟩
  else if can = true then ⟨k, k, 1⟩
  else if some_ = true then ⟨k, if 0 ≤ leastF s.X.el s.X.tg then leastF s.X.el s.X.tg else 0, 4⟩
  else chIdle
/-- The orders behind a service. -/
def servC (reb : Int) (C X : Ord) (c : Chc) (len : Int) : Int × Ord × Ord :=
  if c.why = 2 ∨ c.why = 3 then ((servO reb C c.sv len).1, (servO reb C c.sv len).2, X)
  else if c.why = 4 then ((servO reb X c.sv len).1, C, (servO reb X c.sv len).2)
  else (0, C, X)
def countC (num den : Int) (s : Cq) (c : Chc) : Bool := decide (lagO s.D c.ch < 0) && (decide (c.why = 2) || (decide (c.why = 1) && keepsO num den (cntO s.n c.ch)))
def resetC (D : List Tg) (n : List (Int × (Int × Int))) : List (Int × (Int × Int)) := n.filter fun x => decide (lagO D x.1 < 0)
def bumpC (n : List (Int × (Int × Int))) (c : Chc) (len : Int) : List (Int × (Int × Int)) := mput n c.ch ((cntO n c.ch).1 + len, if c.ch = c.sv then (cntO n c.ch).2 + len else (cntO n c.ch).2)
/-- A slot: the choice, the code, the state behind it. -/
def stepC (num den reb : Int) (s : Cq) (H : List Head) : Chc × Int × Cq :=
  if fitsH s.R.L H = false then (ch0, 1, s)
  else if H = [] then (ch0, 5, s)
  else
    let C := eligO s.C (lagH s.D H)
    let X := eligO s.X (allH s.D H)
    let c := chooseC num den { s with C := C, X := X } H (!(allH s.D H).isEmpty)
    if c = chIdle then (c, 0, { s with C := C, X := X })
    else
      let len := (headOf H c.sv).len
      let r := chargeR reb s.R c.ch len
      if r.1 ≠ 0 then (ch0, r.1, s)
      else
        let o := servC reb C X c len
        if o.1 ≠ 0 then (ch0, o.1, s)
        else
          let d := nMove s.D c.ch c.sv len
          if d.1 ≠ 0 then (ch0, d.1, s)
          else (c, 0, ⟨r.2, d.2, o.2.1, o.2.2, resetC d.2 (if countC num den s c = true then bumpC s.n c len else s.n)⟩)
end Go.Proofs.Ytkmlkpfabkhleaa

/- Iwfq, plain: what a slot decides and how the accounts change. -/
namespace Go.Proofs.Ytkmlkpfabkhleaa
open Go.RowKit
/-- An account: the lag, the greatest lag, the greatest lead. -/
abbrev Acc := Int × Int × Int
structure Iw where
  R : St
  m : List (Int × Acc)
def accO (m : List (Int × Acc)) (f : Int) : Acc := (mget m f).getD (0, 0, 0)
def permI (m : List (Int × Acc)) (k j len : Int) : Bool := decide (k = j) || (decide ((accO m k).1 + len ≤ (accO m k).2.1) && decide (-(accO m j).2.2 ≤ (accO m j).1 - len))
def svcI (m : List (Int × Acc)) (t : Tg) : Int := t.s - (accO m t.f).1 * unit1 t.w
/-- The order by a key, then by the flow. -/
def ltK (key : Tg → Int) (a b : Tg) : Bool := decide (key a < key b ∨ key a = key b ∧ a.f < b.f)
def insK (key : Tg → Int) (x : Tg) : List Tg → List Tg
  | [] => [x]
  | t :: l => if ltK key x t = true then x :: t :: l else t :: insK key x l
def srtK (key : Tg → Int) : List Tg → List Tg
  | [] => []
  | t :: l => insK key t (srtK key l)
theorem insK_perm (key : Tg → Int) (x : Tg) : ∀ l, (insK key x l).Perm (x :: l)
  | [] => .refl _
  | t :: l => by
    unfold insK
    split
    · exact .refl _
    · exact ((insK_perm key x l).cons t).trans (.swap x t l)
theorem srtK_perm (key : Tg → Int) : ∀ l, (srtK key l).Perm l
  | [] => .refl _
  | t :: l => (insK_perm key t _).trans ((srtK_perm key l).cons t)
theorem srtK_len (key : Tg → Int) (l : List Tg) : (srtK key l).length = l.length := (srtK_perm key l).length_eq
theorem srtK_mem {key : Tg → Int} {l : List Tg} {t : Tg} : t ∈ srtK key l ↔ t ∈ l := (srtK_perm key l).mem_iff
theorem ltK_trans {key : Tg → Int} {a b c : Tg} (h1 : ltK key a b = true) (h2 : ltK key b c = true) : ltK key a c = true := by
  unfold ltK at *
  rw [decide_eq_true_eq] at *
  omega
theorem ltK_irrefl (key : Tg → Int) (a : Tg) : ltK key a a = false := by
  unfold ltK
  rw [decide_eq_false_iff_not]
  omega
theorem ltK_or {key : Tg → Int} {a b : Tg} (h : a.f ≠ b.f) (h1 : ¬ ltK key a b = true) : ltK key b a = true := by
  unfold ltK at *
  rw [decide_eq_true_eq] at *
  omega
theorem insK_sorted {key : Tg → Int} {x : Tg} : ∀ {l : List Tg}, l.Pairwise (fun a b => ltK key a b = true) → (∀ t ∈ l, t.f ≠ x.f) → (insK key x l).Pairwise (fun a b => ltK key a b = true)
  | [], _, _ => by unfold insK; exact List.pairwise_singleton _ _
  | t :: l, h, hx => by
    unfold insK
    rw [List.pairwise_cons] at h
    split
    · rename_i hlt
      refine List.pairwise_cons.2 ⟨fun u hu => ?_, List.pairwise_cons.2 h⟩
      rcases List.mem_cons.1 hu with rfl | hu
      · exact hlt
      · exact ltK_trans hlt (h.1 u hu)
    · rename_i hlt
      refine List.pairwise_cons.2 ⟨fun u hu => ?_, insK_sorted h.2 fun u hu => hx u (by simp [hu])⟩
      rcases List.mem_cons.1 ((insK_perm key x l).mem_iff.1 hu) with rfl | hu
      · exact ltK_or (fun e => hx t (by simp) e.symm) hlt
      · exact h.1 u hu
theorem srtK_sorted {key : Tg → Int} : ∀ {l : List Tg}, l.Pairwise (fun a b => a.f < b.f) → (srtK key l).Pairwise (fun a b => ltK key a b = true)
  | [], _ => .nil
  | t :: l, h => by
    rw [List.pairwise_cons] at h
    exact insK_sorted (srtK_sorted h.2) fun u hu e => by have := h.1 u (srtK_mem.1 hu); omega
/-- Two sorted lists of the same tags are one. -/
theorem sorted_eq {key : Tg → Int} : ∀ {l1 l2 : List Tg}, l1.Perm l2 → l1.Pairwise (fun a b => ltK key a b = true) → l2.Pairwise (fun a b => ltK key a b = true) → l1 = l2
  | [], l2, hp, _, _ => (List.nil_perm.1 hp).symm
  | a :: l1, [], hp, _, _ => by have := hp.length_eq; simp at this
  | a :: l1, b :: l2, hp, h1, h2 => by
    rw [List.pairwise_cons] at h1 h2
    have hab : a = b := by
      have ha : a ∈ b :: l2 := hp.mem_iff.1 (by simp)
      have hb : b ∈ a :: l1 := hp.mem_iff.2 (by simp)
      rcases List.mem_cons.1 ha with e | ha
      · exact e
      · rcases List.mem_cons.1 hb with e | hb
        · exact e.symm
        · have := ltK_trans (h1.1 b hb) (h2.1 a ha)
          rw [ltK_irrefl] at this
          cases this
    subst hab
    rw [sorted_eq (List.Perm.cons_inv hp) h1.2 h2.2]
/-- The first pair that is permitted. -/
def pairI (ok : Tg → Tg → Bool) (js : List Tg) : List Tg → Option (Tg × Tg)
  | [] => none
  | k :: ks => match js.find? (ok k) with
    | some j => some (k, j)
    | none => pairI ok js ks
def okI (m : List (Int × Acc)) (H : List Head) (k j : Tg) : Bool := (headOf H j.f).good && permI m k.f j.f (headOf H j.f).len
def accP (a : Acc) (d : Int) : Acc := (a.1 + d, a.2)
/-- A slot: the choice, the code, the state behind it. -/
def stepI (reb : Int) (s : Iw) (H : List Head) : Chc × Int × Iw :=
  if fitsH s.R.L H = false then (ch0, 1, s)
  else if H = [] then (ch0, 5, s)
  else match pairI (okI s.m H) (srtK (svcI s.m) s.R.L) (srtK (·.s) s.R.L) with
    | none => (chIdle, 0, s)
    | some (k, j) =>
      let len := (headOf H j.f).len
      let r := chargeR reb s.R k.f len
      if r.1 ≠ 0 then (ch0, r.1, s)
      else if k.f = j.f then (⟨k.f, k.f, 1⟩, 0, ⟨r.2, s.m⟩)
      else (⟨k.f, j.f, 5⟩, 0, ⟨r.2, mput (mput s.m k.f (accP (accO s.m k.f) len)) j.f (accP (accO s.m j.f) (-len))⟩)
theorem pairI_mem {ok : Tg → Tg → Bool} {js : List Tg} : ∀ {ks : List Tg} {k j : Tg}, pairI ok js ks = some (k, j) → k ∈ ks ∧ j ∈ js ∧ ok k j = true
  | [], k, j, h => by cases h
  | x :: ks, k, j, h => by
    unfold pairI at h
    split at h
    · rename_i y hy
      cases h
      exact ⟨by simp, List.mem_of_find?_eq_some hy, List.find?_some hy⟩
    · obtain ⟨h1, h2⟩ := pairI_mem h
      exact ⟨by simp [h1], h2⟩
theorem pairI_none {ok : Tg → Tg → Bool} {js : List Tg} : ∀ {ks : List Tg}, pairI ok js ks = none → ∀ k ∈ ks, ∀ j ∈ js, ok k j = false
  | [], _, k, hk => by simp at hk
  | x :: ks, h, k, hk => by
    unfold pairI at h
    split at h
    · cases h
    · rename_i hn
      rcases List.mem_cons.1 hk with rfl | hk
      · intro j hj
        have := List.find?_eq_none.1 hn j hj
        simpa using this
      · exact pairI_none h k hk
end Go.Proofs.Ytkmlkpfabkhleaa

/- The error-free reference, plain: the laws of fairness and of rebasing. -/
namespace Go.Proofs.Ytkmlkpfabkhleaa
open Go.RowKit
open SP

section
variable {S : St} {L : List Tg}
theorem fget_insT (x : Tg) (k : Int) : ∀ L : List Tg, fget L x.f = none → fget (insT x L) k = if k = x.f then some x else fget L k
  | [], _ => by
    show fget [x] k = _
    rw [fget_cons]
    by_cases h : k = x.f
    · rw [if_pos h.symm, if_pos h]
    · rw [if_neg (Ne.symm h), if_neg h]
  | a :: L, hn => by
    have hne := fget_none.1 hn a (by simp)
    have hn' : fget L x.f = none := fget_none.2 fun t ht => fget_none.1 hn t (by simp [ht])
    unfold insT
    split
    · rw [fget_cons, fget_insT x k L hn', fget_cons]
      by_cases h : k = x.f
      · rw [if_pos h, if_pos h, if_neg (by rw [h]; exact hne)]
      · rw [if_neg h, if_neg h]
    · rw [fget_cons]
      by_cases h : k = x.f
      · rw [if_pos h.symm, if_pos h]
      · rw [if_neg (Ne.symm h), if_neg h]
theorem fget_delT (g k : Int) : ∀ L : List Tg, fget (delT g L) k = if k = g then none else fget L k
  | [] => by show none = _; split <;> rfl
  | a :: L => by
    unfold delT
    rw [List.filter_cons]
    have ih := fget_delT g k L
    unfold delT at ih
    by_cases h : a.f = g
    · have : (a.f == g) = true := by simpa using h
      rw [this]
      simp only [Bool.not_true, Bool.false_eq_true, if_false]
      rw [ih, fget_cons]
      by_cases hk : k = g
      · rw [if_pos hk, if_pos hk]
      · rw [if_neg hk, if_neg hk, if_neg (by omega)]
    · have : (a.f == g) = false := by simpa using h
      rw [this]
      simp only [Bool.not_false, if_true]
      rw [fget_cons, ih, fget_cons]
      by_cases hk : k = g
      · rw [if_pos hk, if_pos hk, if_neg (by omega)]
      · rw [if_neg hk, if_neg hk]
theorem fget_setT (x : Tg) (k : Int) : ∀ L : List Tg, fget (setT x L) k = if k = x.f then (fget L k).map (fun _ => x) else fget L k
  | [] => by show none = _; split <;> rfl
  | a :: L => by
    have ih := fget_setT x k L
    unfold setT at *
    rw [List.map_cons, fget_cons, ih, fget_cons]
    by_cases hk : k = x.f
    · subst hk
      by_cases ha : a.f = x.f
      · simp [ha]
      · simp [ha]
    · by_cases ha : a.f = x.f
      · simp only [if_pos ha, if_neg hk]
        rw [if_neg (Ne.symm hk), if_neg (by omega)]
      · simp only [if_neg ha, if_neg hk]
theorem fget_map (g : Tg → Tg) (hg : ∀ t, (g t).f = t.f) (k : Int) : ∀ L : List Tg, fget (L.map g) k = (fget L k).map g
  | [] => rfl
  | a :: L => by
    rw [List.map_cons, fget_cons, fget_cons, hg, fget_map g hg k L]
    split <;> rfl

/-! ### SfqFair -/
/-- Flow f has had ba bytes of service, at weight wa. -/
def FA (f wa ba : Int) (S : St) : Prop := ∃ t, fget S.L f = some t ∧ t.w = wa ∧ t.s ≤ S.tm + 4096 * unit1 wa ∧ t.s + S.aw = ba * unit1 wa

theorem FA.join {f wa ba g w : Int} (h : FA f wa ba S) (hok : StOk S) : FA f wa ba (joinR S g w).2 := by
  unfold joinR
  split
  · rename_i he
    have hn := (hok.join he).2.1
    obtain ⟨t, h1, h2, h3, h4⟩ := h
    refine ⟨t, ?_, h2, h3, h4⟩
    show fget (insT ⟨g, w, max S.tm (S.old g)⟩ S.L) f = _
    rw [fget_insT _ _ _ hn, if_neg]
    · exact h1
    · intro e
      have : fget S.L g = some t := by rw [← h1]; congr 1; exact e.symm
      rw [hn] at this
      cases this
  · exact h
theorem FA.leave {f wa ba g : Int} (h : FA f wa ba S) (hne : f ≠ g) : FA f wa ba (leaveR S g).2 := by
  unfold leaveR
  split
  · exact h
  · rename_i u hu
    obtain ⟨t, h1, h2, h3, h4⟩ := h
    have h5 : fget (delT g S.L) f = some t := by rw [fget_delT, if_neg hne]; exact h1
    show FA f wa ba (leaveS S g u.s)
    unfold leaveS
    rw [if_neg (by intro e; rw [e] at h5; cases h5)]
    exact ⟨t, h5, h2, h3, h4⟩
theorem FA.sub {f wa ba by_ : Int} (h : FA f wa ba S) : FA f wa ba (subS S by_) := by
  obtain ⟨t, h1, h2, h3, h4⟩ := h
  refine ⟨⟨t.f, t.w, t.s - by_⟩, ?_, h2, ?_, ?_⟩
  · show fget (S.L.map _) f = _
    rw [fget_map (fun t : Tg => ⟨t.f, t.w, t.s - by_⟩) (fun _ => rfl), h1]
    rfl
  · show t.s - by_ ≤ S.tm - by_ + _; omega
  · show t.s - by_ + (S.aw + by_) = _; omega
theorem FA.reb {f wa ba r : Int} (h : FA f wa ba S) : FA f wa ba (rebS r S) := by
  unfold rebS
  split
  · exact h
  · exact h.sub
theorem FA.ch {f wa ba len : Int} {i : Nat} (h : FA f wa ba S) (hT : TInv i S) (hne : S.L ≠ []) (hl : 0 ≤ len ∧ len ≤ 4096) :
    FA f wa (if (lst S.L).f = f then ba + len else ba) (chS S (lst S.L) ((lst S.L).s + cst len (lst S.L).w)) := by
  have hm := lst_mem hne
  obtain ⟨t, h1, h2, h3, h4⟩ := h
  have ha := hT.act _ hm
  have hr := hT.ok.ok.rng _ hm
  have hmx : max S.tm (lst S.L).s = (lst S.L).s := by omega
  have hfm := fget_mem hT.ok.ok hm
  generalize lst S.L = x at *
  by_cases hf : x.f = f
  · rw [if_pos hf]
    subst hf
    have hxt : x = t := by rw [hfm] at h1; simpa using h1
    subst hxt
    subst h2
    have hu := unit1_range hr.2.2.1 hr.2.2.2.1
    have hc : cst len x.w = len * unit1 x.w := rfl
    refine ⟨⟨x.f, x.w, x.s + cst len x.w⟩, ?_, rfl, ?_, ?_⟩
    · show fget (setT ⟨x.f, x.w, _⟩ S.L) x.f = _
      rw [fget_setT, if_pos rfl, h1]; rfl
    · show x.s + cst len x.w ≤ max S.tm x.s + _
      rw [hmx, hc]
      have : len * unit1 x.w ≤ 4096 * unit1 x.w := Int.mul_le_mul_of_nonneg_right hl.2 (by omega)
      omega
    · show x.s + cst len x.w + S.aw = _
      rw [hc, Int.add_mul]; omega
  · rw [if_neg hf]
    refine ⟨t, ?_, h2, ?_, h4⟩
    · show fget (setT ⟨x.f, x.w, _⟩ S.L) f = _
      rw [fget_setT, if_neg (Ne.symm hf)]; exact h1
    · show t.s ≤ max S.tm x.s + _; omega

/-! ### SfqRebase -/
def sh (d : Int) (t : Tg) : Tg := ⟨t.f, t.w, t.s + d⟩
theorem insT_map (d : Int) (x : Tg) : ∀ L : List Tg, insT (sh d x) (L.map (sh d)) = (insT x L).map (sh d)
  | [] => rfl
  | a :: L => by
    rw [List.map_cons]
    unfold insT
    by_cases h : a.f < x.f
    · rw [if_pos (show (sh d a).f < (sh d x).f from h), if_pos h, List.map_cons, insT_map d x L]
    · rw [if_neg (show ¬ (sh d a).f < (sh d x).f from h), if_neg h, List.map_cons, List.map_cons]
theorem delT_map (d k : Int) (L : List Tg) : delT k (L.map (sh d)) = (delT k L).map (sh d) := by
  unfold delT
  rw [List.filter_map]; rfl
theorem setT_map (d : Int) (x : Tg) (L : List Tg) : setT (sh d x) (L.map (sh d)) = (setT x L).map (sh d) := by
  unfold setT
  rw [List.map_map, List.map_map]
  refine List.map_congr_left fun t _ => ?_
  show (if t.f = x.f then sh d x else sh d t) = sh d (if t.f = x.f then x else t)
  split <;> rfl
theorem leastG_map (d : Int) (L : List Tg) : ∀ (l : List Tg) (i best : Nat), i + l.length = L.length → best < L.length → leastG (L.map (sh d)) (l.map (sh d)) i best = leastG L l i best
  | [], _, _, _, _ => rfl
  | t :: l, i, best, hl, hb => by
    rw [List.map_cons]
    unfold leastG
    have e1 : ((L.map (sh d)).getD best ⟨0, 0, 0⟩).s = (L.getD best ⟨0, 0, 0⟩).s + d := by
      rw [List.getD_eq_getElem?_getD, List.getElem?_map, List.getD_eq_getElem?_getD, List.getElem?_eq_getElem hb]
      rfl
    rw [e1]
    have e2 : ((sh d t).s < (L.getD best ⟨0, 0, 0⟩).s + d) ↔ (t.s < (L.getD best ⟨0, 0, 0⟩).s) := by show t.s + d < _ ↔ _; omega
    simp only [e2]
    rw [List.length_cons] at hl
    refine leastG_map d L l (i + 1) _ (by omega) ?_
    split <;> omega
theorem leastN_map (d : Int) (L : List Tg) : leastN (L.map (sh d)) = leastN L := by
  unfold leastN
  cases L with
  | nil => rfl
  | cons a L => exact leastG_map d (a :: L) (a :: L) 0 0 (by simp) (by simp)
theorem lst_map (d : Int) {L : List Tg} (h : L ≠ []) : lst (L.map (sh d)) = sh d (lst L) := by
  unfold lst
  rw [leastN_map, List.getD_eq_getElem?_getD, List.getElem?_map, List.getD_eq_getElem?_getD, List.getElem?_eq_getElem (leastN_lt h)]
  rfl

structure PInv (i : Nat) (d : Int) (A B : St) : Prop where
  a : TInv i A
  b : TInv i B
  L : B.L = A.L.map (sh d)
  tm : B.tm = A.tm + d
  old : ∀ f, max (B.old f) B.tm = max (A.old f) A.tm + d

theorem PInv.start : PInv 0 0 ⟨[], fun _ => 0, 0, 0⟩ ⟨[], fun _ => 0, 0, 0⟩ := ⟨TInv.start, TInv.start, rfl, rfl, fun f => by simp⟩
section
variable {i : Nat} {d : Int} {A B : St}
theorem PInv.next (h : PInv i d A B) : PInv (i + 1) d A B := ⟨h.a.next, h.b.next, h.L, h.tm, h.old⟩
theorem PInv.get (h : PInv i d A B) (k : Int) : fget B.L k = (fget A.L k).map (sh d) := by rw [h.L]; exact fget_map (sh d) (fun _ => rfl) k A.L
theorem PInv.nil (h : PInv i d A B) : B.L = [] ↔ A.L = [] := by rw [h.L]; simp
theorem PInv.joinE (h : PInv i d A B) (f w : Int) : joinE B f w = joinE A f w := by
  unfold Go.Proofs.Ytkmlkpfabkhleaa.joinE
  rw [h.get]; simp
theorem PInv.join (h : PInv i d A B) (f w : Int) : (joinR B f w).1 = (joinR A f w).1 ∧ PInv i d (joinR A f w).2 (joinR B f w).2 := by
  refine ⟨h.joinE f w, ?_⟩
  have ha := h.a.join f w
  have hb := h.b.join f w
  unfold joinR at *
  rw [h.joinE] at *
  split
  · rename_i he
    simp only [if_pos he] at ha hb
    have hm := h.old f
    have ht := h.tm
    have tb := h.b.ok.tm
    have ta := h.a.ok.tm
    refine ⟨ha, hb, ?_, h.tm, fun g => ?_⟩
    · show insT ⟨f, w, max B.tm (B.old f)⟩ B.L = (insT ⟨f, w, max A.tm (A.old f)⟩ A.L).map (sh d)
      rw [← insT_map, h.L]
      congr 1
      show Tg.mk _ _ _ = Tg.mk f w (max A.tm (A.old f) + d)
      congr 1
      omega
    · have := h.old g
      show max (if g = f then 0 else B.old g) B.tm = max (if g = f then 0 else A.old g) A.tm + d
      split <;> omega
  · exact h
theorem PInv.leave (h : PInv i d A B) (f : Int) : (leaveR B f).1 = (leaveR A f).1 ∧ ∃ d', PInv i d' (leaveR A f).2 (leaveR B f).2 := by
  have ha := h.a.leave f
  have hb := h.b.leave f
  unfold leaveR at *
  rw [h.get] at *
  cases hf : fget A.L f with
  | none => exact ⟨rfl, d, h⟩
  | some t =>
    rw [hf] at ha hb
    refine ⟨rfl, ?_⟩
    simp only [Option.map_some] at ha hb ⊢
    have hd : delT f B.L = (delT f A.L).map (sh d) := by rw [h.L, delT_map]
    unfold leaveS at *
    rw [hd] at hb ⊢
    by_cases he : delT f A.L = []
    · rw [if_pos he] at ha ⊢
      rw [he] at hb ⊢
      simp only [List.map_nil, if_true] at hb ⊢
      exact ⟨0, ha, hb, rfl, rfl, fun g => by simp⟩
    · rw [if_neg he] at ha ⊢
      have he' : (delT f A.L).map (sh d) ≠ [] := by simpa using he
      rw [if_neg he'] at hb ⊢
      refine ⟨d, ha, hb, rfl, h.tm, fun g => ?_⟩
      have := h.old g
      have ht := h.tm
      show max (if g = f then t.s + d else B.old g) B.tm = max (if g = f then t.s else A.old g) A.tm + d
      split <;> omega
theorem PInv.sel (h : PInv i d A B) : selT B.L = selT A.L := by
  unfold selT
  by_cases he : A.L = []
  · rw [if_pos he, if_pos (h.nil.2 he)]
  · rw [if_neg he, if_neg (fun e => he (h.nil.1 e)), h.L, lst_map d he]
    rfl
theorem PInv.subA (h : PInv i d A B) (hne : A.L ≠ []) : PInv i (d + A.tm) (subS A A.tm) B := by
  refine ⟨h.a.sub hne, h.b, ?_, ?_, fun f => ?_⟩
  · show B.L = (A.L.map _).map _
    rw [h.L, List.map_map]
    refine List.map_congr_left fun t _ => ?_
    show Tg.mk _ _ _ = Tg.mk _ _ _
    congr 1
    show t.s + d = t.s - A.tm + (d + A.tm); omega
  · have := h.tm; show B.tm = A.tm - A.tm + (d + A.tm); omega
  · have h1 := h.old f
    have h2 := h.tm
    have h3 := h.a.ok.tm
    show max (B.old f) B.tm = max (max (A.old f - A.tm) 0) (A.tm - A.tm) + (d + A.tm)
    omega
theorem PInv.subB (h : PInv i d A B) (hne : B.L ≠ []) : PInv i (d - B.tm) A (subS B B.tm) := by
  refine ⟨h.a, h.b.sub hne, ?_, ?_, fun f => ?_⟩
  · show B.L.map _ = A.L.map _
    rw [h.L, List.map_map]
    refine List.map_congr_left fun t _ => ?_
    show Tg.mk _ _ _ = Tg.mk _ _ _
    congr 1
    show t.s + d - B.tm = t.s + (d - B.tm); omega
  · have := h.tm; show B.tm - B.tm = A.tm + (d - B.tm); omega
  · have h1 := h.old f
    have h2 := h.tm
    have h3 := h.b.ok.tm
    show max (max (B.old f - B.tm) 0) (B.tm - B.tm) = max (A.old f) A.tm + (d - B.tm)
    omega
theorem PInv.reb (h : PInv i d A B) (hne : A.L ≠ []) (ra rb : Int) : ∃ d', PInv i d' (rebS ra A) (rebS rb B) := by
  have hnb : B.L ≠ [] := fun e => hne (h.nil.1 e)
  have h1 : ∃ d', PInv i d' (rebS ra A) B := by
    unfold rebS
    split
    · exact ⟨d, h⟩
    · rw [h.a.by_ hne]; exact ⟨_, h.subA hne⟩
  obtain ⟨d', h1⟩ := h1
  unfold rebS at *
  by_cases hc : byS B < rb
  · simp only [if_pos hc]; exact ⟨d', h1⟩
  · simp only [if_neg hc]
    rw [h.b.by_ hnb]
    exact ⟨_, h1.subB hnb⟩
theorem PInv.charge (h : PInv i d A B) (hi : i ≤ 300) (ra rb : Int) {len : Int} (h1 : 1 ≤ len) (h2 : len ≤ 4096) :
    (chargeR rb B (selT A.L).1 len).1 = (chargeR ra A (selT A.L).1 len).1 ∧ ∃ d', PInv (i + 1) d' (chargeR ra A (selT A.L).1 len).2 (chargeR rb B (selT A.L).1 len).2 := by
  by_cases he : A.L = []
  · have hb := h.nil.2 he
    have ea : chargeR ra A (selT A.L).1 len = (6, A) := by unfold chargeR; rw [show fget A.L (selT A.L).1 = none from by rw [fget_none, he]; simp]
    have eb : chargeR rb B (selT A.L).1 len = (6, B) := by unfold chargeR; rw [show fget B.L (selT A.L).1 = none from by rw [fget_none, hb]; simp]
    rw [ea, eb]
    exact ⟨rfl, d, h.next⟩
  · have hbe : B.L ≠ [] := fun e => he (h.nil.1 e)
    have es : (selT A.L).1 = (lst A.L).f := by unfold selT; rw [if_neg he]
    have eb : lst B.L = sh d (lst A.L) := by rw [h.L]; exact lst_map d he
    obtain ⟨ca, ta⟩ := h.a.charge hi he h1 h2 ra
    obtain ⟨cb, tb⟩ := h.b.charge hi hbe h1 h2 rb
    have esb : (lst B.L).f = (lst A.L).f := by rw [eb]; rfl
    rw [es, ca]
    rw [esb] at cb
    rw [cb]
    refine ⟨rfl, ?_⟩
    have xa := (h.a.ch hi he h1 h2).2
    have xb := (h.b.ch hi hbe h1 h2).2
    refine PInv.reb (d := d) ⟨xa.1, xb.1, ?_, ?_, fun f => ?_⟩ (setT_ne he) ra rb
    · show setT ⟨(lst B.L).f, (lst B.L).w, (lst B.L).s + cst len (lst B.L).w⟩ B.L = (setT ⟨(lst A.L).f, (lst A.L).w, (lst A.L).s + cst len (lst A.L).w⟩ A.L).map (sh d)
      rw [← setT_map, h.L, ← h.L, eb]
      congr 1
      show Tg.mk _ _ _ = Tg.mk _ _ _
      congr 1
      show (lst A.L).s + d + cst len (lst A.L).w = (lst A.L).s + cst len (lst A.L).w + d
      omega
    · have e1 := xa.2
      have e2 := xb.2
      show max B.tm (lst B.L).s = max A.tm (lst A.L).s + d
      rw [e1, e2, eb]; rfl
    · have e0 := h.old f
      have e1 := h.tm
      have e2 : (lst B.L).s = (lst A.L).s + d := by rw [eb]; rfl
      show max (B.old f) (max B.tm (lst B.L).s) = max (A.old f) (max A.tm (lst A.L).s) + d
      omega
end
end
end Go.Proofs.Ytkmlkpfabkhleaa

/- Iwfq, plain: what the slots keep; no flow in place of another one; slots without errors. -/
namespace Go.Proofs.Ytkmlkpfabkhleaa
open Go.RowKit
section
variable {S : St} {i : Nat} {s : Iw} {H : List Head} {reb : Int}

/-- Tags that are not far. -/
structure TB (i : Nat) (S : St) : Prop where
  ok : StOk S
  act : ∀ t ∈ S.L, t.s ≤ i * 2952069120
  tm : S.tm ≤ i * 2952069120
  old : ∀ f, S.old f ≤ i * 2952069120
  aw0 : 0 ≤ S.aw
  aw1 : S.aw ≤ i * 1099511627776
theorem TB.start : TB 0 ⟨[], fun _ => 0, 0, 0⟩ := ⟨StOk.start, by simp, by simp, fun f => by simp, by simp, by simp⟩
theorem TB.next (h : TB i S) : TB (i + 1) S := ⟨h.ok, fun t ht => by have := h.act t ht; push_cast; omega, by have := h.tm; push_cast; omega, fun f => by have := h.old f; push_cast; omega, h.aw0, by have := h.aw1; push_cast; omega⟩
theorem TB.join (h : TB i S) {f w : Int} (he : joinE S f w = 0) : TB i (joinS S f w) := by
  obtain ⟨h1, h2, h3, h4, h5, h6⟩ := h.ok.join he
  refine ⟨h1, fun t ht => ?_, h.tm, fun g => ?_, h.aw0, h.aw1⟩
  · unfold joinS at ht
    dsimp only at ht
    have hp : t = ⟨f, w, max S.tm (S.old f)⟩ ∨ t ∈ S.L := by
      have : ∀ (L : List Tg) (x : Tg), t ∈ insT x L → t = x ∨ t ∈ L := fun L x => by
        induction L with
        | nil => intro h; unfold insT at h; simpa using h
        | cons u L ih =>
          intro h
          unfold insT at h
          split at h
          · rcases List.mem_cons.1 h with h | h
            · right; simp [h]
            · rcases ih h with h | h
              · left; exact h
              · right; simp [h]
          · rcases List.mem_cons.1 h with h | h
            · left; exact h
            · right; exact h
      exact this _ _ ht
    rcases hp with rfl | hp
    · have := h.tm; have := h.old f
      show max S.tm (S.old f) ≤ _
      omega
    · exact h.act t hp
  · show (if g = f then 0 else S.old g) ≤ _
    have := h.old g
    split <;> omega
theorem setT_pts {L : List Tg} (h : LOk L) {t : Tg} (ht : t ∈ L) (nx : Int) : (setT ⟨t.f, t.w, nx⟩ L).map (fun u => (u.f, u.w)) = L.map (fun u => (u.f, u.w)) := by
  unfold setT
  rw [List.map_map]
  refine List.map_congr_left fun u hu => ?_
  show ((if u.f = t.f then (⟨t.f, t.w, nx⟩ : Tg) else u).f, (if u.f = t.f then (⟨t.f, t.w, nx⟩ : Tg) else u).w) = (u.f, u.w)
  split
  · rename_i e
    rw [h.inj hu ht e]
  · rfl
/-- A charge of any flow. -/
theorem TB.charge (h : TB i S) (hi : i ≤ 371) {t : Tg} (ht : t ∈ S.L) {len : Int} (h1 : 1 ≤ len) (h2 : len ≤ 4096) (r : Int) :
    (chargeR r S t.f len).1 = 0 ∧ TB (i + 1) (chargeR r S t.f len).2 ∧ (chargeR r S t.f len).2.L.map (fun u => (u.f, u.w)) = S.L.map (fun u => (u.f, u.w)) := by
  have hr := h.ok.ok.rng t ht
  have hts := h.act t ht
  have hc := cst_range hr.2.2.1 hr.2.2.2.1 h1 h2
  have hg : fget S.L t.f = some t := fget_mem h.ok.ok ht
  have hfin : finF t.s len t.w = (t.s + cst len t.w, 0) := by
    unfold finF
    rw [if_neg (by unfold badLW; omega), if_neg (by omega)]
  have hq : chargeR r S t.f len = (0, rebS r (chS S t (t.s + cst len t.w))) := by
    unfold chargeR
    rw [hg]
    dsimp only
    rw [hfin]
    rfl
  have hch : TB (i + 1) (chS S t (t.s + cst len t.w)) := by
    refine ⟨h.ok.ch ht (by omega), fun u hu => ?_, ?_, fun f => ?_, h.aw0, ?_⟩
    · unfold chS setT at hu
      dsimp only at hu
      obtain ⟨v, hv, rfl⟩ := List.mem_map.1 hu
      have := h.act v hv
      split
      · show t.s + cst len t.w ≤ _; push_cast; omega
      · push_cast; omega
    · show max S.tm t.s ≤ _
      have := h.tm
      push_cast; omega
    · have := h.old f
      show S.old f ≤ _
      push_cast; omega
    · have := h.aw1
      show S.aw ≤ _
      push_cast; omega
  have hne : (chS S t (t.s + cst len t.w)).L ≠ [] := setT_ne (List.ne_nil_of_mem ht)
  have hpt : (chS S t (t.s + cst len t.w)).L.map (fun u => (u.f, u.w)) = S.L.map (fun u => (u.f, u.w)) := setT_pts h.ok.ok ht _
  rw [hq]
  refine ⟨rfl, ?_, ?_⟩
  · dsimp only
    unfold rebS
    split
    · exact hch
    · obtain ⟨b0, b1, b2⟩ := byS_rng hch.ok hne
      have htm := hch.tm
      refine ⟨hch.ok.sub b0 b1 b2, fun u hu => ?_, ?_, fun f => ?_, ?_, ?_⟩
      · unfold subS at hu
        dsimp only at hu
        obtain ⟨v, hv, rfl⟩ := List.mem_map.1 hu
        have := hch.act v hv
        show v.s - _ ≤ _
        omega
      · show (chS S t (t.s + cst len t.w)).tm - _ ≤ _
        omega
      · have := hch.old f
        show max ((chS S t (t.s + cst len t.w)).old f - _) 0 ≤ _
        omega
      · show 0 ≤ S.aw + _
        have := h.aw0
        omega
      · have := h.aw1
        show S.aw + byS (chS S t (t.s + cst len t.w)) ≤ _
        have : (chS S t (t.s + cst len t.w)).tm ≤ 1099511627776 := hch.ok.tm.2
        push_cast
        omega
  · dsimp only
    unfold rebS
    split
    · exact hpt
    · rw [← hpt]
      unfold subS
      dsimp only
      rw [List.map_map]
      rfl

theorem headOf_good {j : Int} (h : (headOf H j).good = true) : ∃ x ∈ H, x.f = j ∧ headOf H j = x := by
  unfold headOf at *
  cases hf : H.find? (fun h => h.f == j) with
  | none => rw [hf] at h; cases h
  | some x => exact ⟨x, List.mem_of_find?_eq_some hf, by simpa using List.find?_some hf, rfl⟩
theorem fits_len {L : List Tg} (h : fitsH L H = true) : H.map (·.f) = L.map (·.f) ∧ ∀ x ∈ H, 1 ≤ x.len ∧ x.len ≤ 4096 := by
  unfold fitsH at h
  rw [Bool.and_eq_true, decide_eq_true_eq, List.all_eq_true] at h
  exact ⟨h.1, fun x hx => by simpa using h.2 x hx⟩
/-- A slot with heads that fit, by its pair. -/
theorem stepI_eq (hf : fitsH s.R.L H = true) (hne : H ≠ []) : stepI reb s H = match pairI (okI s.m H) (srtK (svcI s.m) s.R.L) (srtK (·.s) s.R.L) with
    | none => (chIdle, 0, s)
    | some (k, j) => if (chargeR reb s.R k.f (headOf H j.f).len).1 ≠ 0 then (ch0, (chargeR reb s.R k.f (headOf H j.f).len).1, s)
      else if k.f = j.f then (⟨k.f, k.f, 1⟩, 0, ⟨(chargeR reb s.R k.f (headOf H j.f).len).2, s.m⟩)
      else (⟨k.f, j.f, 5⟩, 0, ⟨(chargeR reb s.R k.f (headOf H j.f).len).2, mput (mput s.m k.f (accP (accO s.m k.f) (headOf H j.f).len)) j.f (accP (accO s.m j.f) (-(headOf H j.f).len))⟩) := by
  unfold stepI
  rw [if_neg (by rw [hf]; simp), if_neg hne]
  all_goals rfl
/-- With bounds of 0. -/
theorem strict_step (hz : ∀ f, accO s.m f = (0, 0, 0)) (h : TB i s.R) (hi : i ≤ 371) (hf : fitsH s.R.L H = true) (hne : H ≠ []) :
    (stepI reb s H).2.1 = 0 ∧ (stepI reb s H).1.ch = (stepI reb s H).1.sv ∧ ((stepI reb s H).1.why = 6 ↔ ∀ x ∈ H, x.good = false) ∧
      (stepI reb s H).2.2.m = s.m ∧ TB (i + 1) (stepI reb s H).2.2.R ∧ (stepI reb s H).2.2.R.L.map (fun u => (u.f, u.w)) = s.R.L.map (fun u => (u.f, u.w)) := by
  obtain ⟨f1, f2⟩ := fits_len hf
  rw [stepI_eq hf hne]
  cases hp : pairI (okI s.m H) (srtK (svcI s.m) s.R.L) (srtK (·.s) s.R.L) with
  | none =>
    dsimp only
    refine ⟨rfl, rfl, ⟨fun _ x hx => ?_, fun _ => rfl⟩, rfl, h.next, rfl⟩
    have hm : x.f ∈ s.R.L.map (·.f) := by rw [← f1]; exact List.mem_map.2 ⟨x, hx, rfl⟩
    obtain ⟨t, ht, htf⟩ := List.mem_map.1 hm
    have hn := pairI_none hp t (srtK_mem.2 ht) t (srtK_mem.2 ht)
    unfold okI permI at hn
    rw [decide_eq_true rfl, Bool.true_or, Bool.and_true, htf] at hn
    have hx2 : headOf H x.f = x := by
      unfold headOf
      have hnd : (H.map (·.f)).Pairwise (fun a b => a < b) := by rw [f1, List.pairwise_map]; exact h.ok.ok.asc
      cases hq : H.find? (fun y => y.f == x.f) with
      | none => have := List.find?_eq_none.1 hq x hx; simp at this
      | some y =>
        have hy := List.mem_of_find?_eq_some hq
        have e : y.f = x.f := by simpa using List.find?_some hq
        rw [List.pairwise_map] at hnd
        have : y = x := by
          obtain ⟨p, hp⟩ := List.getElem?_of_mem hy
          obtain ⟨q, hq⟩ := List.getElem?_of_mem hx
          have hpl := (List.getElem?_eq_some_iff.1 hp)
          have hql := (List.getElem?_eq_some_iff.1 hq)
          obtain ⟨hp1, hp2⟩ := hpl
          obtain ⟨hq1, hq2⟩ := hql
          rcases Nat.lt_trichotomy p q with hlt | rfl | hlt
          · have := List.pairwise_iff_getElem.1 hnd p q hp1 hq1 hlt
            rw [hp2, hq2] at this; omega
          · rw [← hp2, ← hq2]
          · have := List.pairwise_iff_getElem.1 hnd q p hq1 hp1 hlt
            rw [hp2, hq2] at this; omega
        rw [this]; rfl
    rw [hx2] at hn
    exact hn
  | some kj =>
    obtain ⟨k, j⟩ := kj
    dsimp only
    obtain ⟨m1, m2, m3⟩ := pairI_mem hp
    unfold okI at m3
    rw [Bool.and_eq_true] at m3
    obtain ⟨x, hx, hxj, hxe⟩ := headOf_good m3.1
    have hl := f2 x hx
    rw [hxe] at m3 ⊢
    have hkj : k.f = j.f := by
      have := m3.2
      unfold permI at this
      rw [hz, hz, Bool.or_eq_true, Bool.and_eq_true, decide_eq_true_eq, decide_eq_true_eq, decide_eq_true_eq] at this
      rcases this with h | ⟨h1, h2⟩
      · exact h
      · dsimp only at h1 h2; omega
    obtain ⟨c1, c2, c3⟩ := h.charge hi (srtK_mem.1 m1) hl.1 hl.2 reb
    rw [if_neg (by rw [c1]; simp), if_pos hkj]
    exact ⟨rfl, rfl, ⟨fun e => absurd (show (1 : Int) = 6 from e) (by decide), fun hall => by have := hall x hx; rw [m3.1] at this; cases this⟩, rfl, c2, c3⟩
end
end Go.Proofs.Ytkmlkpfabkhleaa

/- The error-free reference of the program: New, Join, Leave, Tags, Time. -/
namespace Go.Proofs.Ytkmlkpfabkhleaa
open Go.RowKit
open SP

def sfqCells (reb : Int) (ab rb : Nat) (tm aw : Int) : List Value := [.int .i64 reb, .map (some ab), .map (some rb), .int .i64 tm, .int .i64 aw]
def SfqR (b : Nat) (reb : Int) (S : St) : SP := ex fun (p : Nat × Nat × List (Int × Tg) × List (Int × Int)) =>
  st [pu (Rep p.2.2.1 S.L ∧ (∀ f, tget p.2.2.2 f = S.old f) ∧ Uniq p.2.2.2 ∧ StOk S), cel b 126 [.int .i64 reb, .map (some p.1), .map (some p.2.1), .int .i64 S.tm, .int .i64 S.aw], mpI tagV p.1 p.2.2.1, mpI (Value.int .i64) p.2.1 p.2.2.2]

section
variable {W w w' : World} {b : Nat} {reb : Int} {S : St} {R : List SP}

theorem SfqR.iff : Own w (SfqR b reb S :: R) ↔ ∃ ab rb m rem, Rep m S.L ∧ (∀ f, tget rem f = S.old f) ∧ Uniq rem ∧ StOk S ∧
    Own w (cel b 126 [.int .i64 reb, .map (some ab), .map (some rb), .int .i64 S.tm, .int .i64 S.aw] :: mpI tagV ab m :: mpI (Value.int .i64) rb rem :: R) := by
  constructor
  · intro o
    obtain ⟨⟨ab, rb, m, rem⟩, h⟩ := Own.ex.1 o
    obtain ⟨⟨h1, h2, h3, h4⟩, h5⟩ := Own.pu.1 (Own.st.1 h)
    exact ⟨ab, rb, m, rem, h1, h2, h3, h4, h5⟩
  · rintro ⟨ab, rb, m, rem, h1, h2, h3, h4, h5⟩
    exact Own.ex.2 ⟨(ab, rb, m, rem), Own.st.2 (Own.pu.2 ⟨⟨h1, h2, h3, h4⟩, h5⟩)⟩

theorem SfqR.ok (o : Own w (SfqR b reb S :: R)) : StOk S := by
  obtain ⟨_, _, _, _, _, _, _, h, _⟩ := SfqR.iff.1 o
  exact h

theorem Try.zeroT (w : World) : (zeroValue 106).run Try.prog w = .ok (.agg #[.int .i64 0, .int .i64 0, .int .i64 0]) w := by kernel_rfl
theorem Try.tagT : ElemT Try.prog 102 106 3 24 := ElemT.mk' (z := .agg #[.int .i64 0, .int .i64 0, .int .i64 0]) Try.underlying102 (by kernel_rfl) rfl (by decide)

section
variable {ab : Nat} {m : List (Int × Tg)} {L : List Tg} {k : Int} {t : Tg}
theorem lookT_some (o : Own w (mpI tagV ab m :: R)) (hm : Rep m L) (h : fget L k = some t) :
    (Instr.lookup 123 (.map (some ab)) (.int .i64 k) true).run Try.prog w = .ok (.tuple #[.agg #[.int .i64 t.f, .int .i64 t.w, .int .i64 t.s], .bool true]) w := by
  rw [run_lookup_mpI Try.underlying123 Try.underlying3 Try.zeroT o k true, hm.get, h]; rfl
theorem lookT_one (o : Own w (mpI tagV ab m :: R)) (hm : Rep m L) (h : fget L k = some t) :
    (Instr.lookup 123 (.map (some ab)) (.int .i64 k) false).run Try.prog w = .ok (.agg #[.int .i64 t.f, .int .i64 t.w, .int .i64 t.s]) w := by
  rw [run_lookup_mpI Try.underlying123 Try.underlying3 Try.zeroT o k false, hm.get, h]; rfl
theorem lookT_none (o : Own w (mpI tagV ab m :: R)) (hm : Rep m L) (h : fget L k = none) :
    (Instr.lookup 123 (.map (some ab)) (.int .i64 k) true).run Try.prog w = .ok (.tuple #[.agg #[.int .i64 0, .int .i64 0, .int .i64 0], .bool false]) w := by
  rw [run_lookup_mpI Try.underlying123 Try.underlying3 Try.zeroT o k true, hm.get, h]; rfl
end

set_option maxHeartbeats 800000 in
theorem sfqNew_spec (r : Int) (h1 : 1 ≤ r) (h2 : r ≤ 1099511627776) (o : Own w R) :
    Calls Try.prog 48 #[.int .i64 r] w fun e w' => ∃ b, Ret (.tuple #[.pointer (some ⟨b, 0, none⟩), .int .i64 0]) (SfqR b r ⟨[], fun _ => 0, 0, 0⟩ :: R) w e w' := by
  have hmm := @run_makeMap Try.prog
  go_enter Try.func48, Try.ntmps48
  go_wp2
  go_ret2
  have o1 := (o.mpI_made (f := tagV)).mpI_made (f := Value.int .i64) (α := Int)
  have o2 := (o1.swap).alloc (.cells #[.int .i64 r, .map (some w.heap.size), .map (some (w.heap.size + 1)), .int .i64 0, .int .i64 0] 126)
  simp only [World.size_alloc] at o2
  exact ⟨_, rfl, SfqR.iff.2 ⟨w.heap.size, w.heap.size + 1, [], [], Rep.start, fun _ => rfl, by simp [Uniq], StOk.start, o2⟩, ⟨rfl, rfl, rfl⟩⟩

set_option maxHeartbeats 3200000 in
set_option maxRecDepth 100000 in
theorem sfqJoin_spec (f wt : Int) (o : Own w (SfqR b reb S :: R)) :
    Calls Try.prog 50 #[.pointer (some ⟨b, 0, none⟩), .int .i64 f, .int .i64 wt] w (Ret (.int .i64 (joinR S f wt).1) (SfqR b reb (joinR S f wt).2 :: R) w) := by
  obtain ⟨ab, rb, m, rem, hm, hold, hur, hok, o1⟩ := SfqR.iff.1 o
  have c1 := o1.cell 1
  have Hold := Lib.hid hold
  clear hold
  by_cases hbad : f < 0 ∨ 32 ≤ f ∨ wt < 1 ∨ 16 < wt
  · have e : joinR S f wt = (1, S) := by unfold joinR joinE; rw [if_pos hbad]; rfl
    rw [e]; clear e
    have fin : ∀ x, Ret (.int .i64 1) (SfqR b reb S :: R) w (.returned (.int .i64 1)) (w.alloc x) := fun x => ⟨rfl, o.more x, ⟨rfl, rfl, rfl⟩⟩
    have key : ∃ (t : Tg) (z : Bool), (Instr.lookup 123 (.map (some ab)) (.int .i64 f) true).run Try.prog w = .ok (.tuple #[.agg #[.int .i64 t.f, .int .i64 t.w, .int .i64 t.s], .bool z]) w := by
      cases hf : fget S.L f with
      | none => exact ⟨⟨0, 0, 0⟩, false, lookT_none (o1.up 1) hm hf⟩
      | some t => exact ⟨t, true, lookT_some (o1.up 1) hm hf⟩
    obtain ⟨t, z, hlk⟩ := key
    by_cases h1 : f < 0
    · clear hbad
      go_enter Try.func50, Try.ntmps50
      go_wp2
      go_ret
      exact fin _
    · by_cases h2 : 32 ≤ f
      · clear hbad
        go_enter Try.func50, Try.ntmps50
        go_wp2
        go_ret
        exact fin _
      · by_cases h3 : wt < 1
        · clear hbad
          go_enter Try.func50, Try.ntmps50
          go_wp2
          go_ret
          exact fin _
        · have h4 : 16 < wt := by omega
          clear hbad
          go_enter Try.func50, Try.ntmps50
          go_wp2
          go_ret
          exact fin _
  · have h1 : ¬ f < 0 := by omega
    have h2 : ¬ 32 ≤ f := by omega
    have h3 : ¬ wt < 1 := by omega
    have h4 : ¬ 16 < wt := by omega
    cases hf : fget S.L f with
    | some t =>
      have e : joinR S f wt = (7, S) := by unfold joinR joinE; rw [if_neg hbad, hf]; rfl
      rw [e]; clear e hbad
      have hlk := lookT_some (o1.up 1) hm hf
      clear hf
      go_enter Try.func50, Try.ntmps50
      go_wp2
      go_ret
      exact ⟨rfl, o.more _, ⟨rfl, rfl, rfl⟩⟩
    | none =>
      have he : joinE S f wt = 0 := by unfold joinE; rw [if_neg hbad, hf]; rfl
      have e : joinR S f wt = (0, joinS S f wt) := by unfold joinR; rw [he, if_pos rfl]
      rw [e]; clear e hbad
      have hlk := lookT_none (o1.up 1) hm hf
      have hok1 := hok.join he
      have hom := o1.alloc (.cells #[.int .i64 0, .int .i64 0, .int .i64 0] 106)
      have l1 := lookIL rb ((hom.up 3).drew) f false
      simp only [Bool.false_eq_true, if_false] at l1
      have c2 := o1.cell 2
      have c3 := o1.cell 3
      have hbl := o1.celLt
      have hx : tget rem f = S.old f := Hold.out f
      obtain ⟨s, hs⟩ : ∃ s, max S.tm (tget rem f) = s := ⟨_, rfl⟩
      have hms : max S.tm (S.old f) = s := by rw [← hx]; exact hs
      have HS := Lib.hid hms
      clear hms hx
      have hrep : Rep (mput m f ⟨f, wt, s⟩) (joinS S f wt).L := by
        have h5 := hok.tm
        have h6 := hok.old f
        have := hm.ins (x := ⟨f, wt, s⟩) hf (by refine ⟨?_, ?_, ?_, ?_, ?_, ?_⟩ <;> (simp only; first | omega | (rw [← HS.out]; omega)))
        show Rep (mput m f ⟨f, wt, s⟩) (insT ⟨f, wt, max S.tm (S.old f)⟩ S.L)
        rw [HS.out]; exact this
      clear hf he
      go_enter Try.func50, Try.ntmps50
      go_wp2
      refine wp_region_tail 19 (by kernel_rfl) (by kernel_rfl) ?_
      simp only [List.take_succ_cons, List.take_zero, List.drop_succ_cons, List.drop_zero]
      repeat still_step
      refine wpStill_nil ?_
      go_wp2_with (at_mapUpdate; refine wpList_mapUpdate_mpI (f := tagV) rfl _ _ _ rfl Try.underlying123 Try.underlying3 ((hom.up 2).drew) f ⟨f, wt, s⟩ rfl rfl rfl ?c1)
      case c1 =>
      intro w1 o2 k2
      have d2 := (o2.up 2).cell 2
      go_wp2_with (at_delete; refine wpList_delete_mpI rfl _ _ rfl Try.underlying124 Try.underlying3 (o2.up 3) f rfl rfl ?c2)
      case c2 =>
      intro w3 o3 k3
      go_wp2
      go_ret
      refine ⟨rfl, SfqR.iff.2 ⟨ab, rb, _, _, hrep, fun g => ?_, hur.mdel f, hok1.1, ?_⟩, (Calm.trans ⟨k2.os, k2.tape, k2.output⟩ k3)⟩
      · show tget (mdel rem f) g = if g = f then 0 else S.old g
        unfold tget
        rw [mget_mdel hur]
        split
        · rfl
        · exact Hold.out g
      · exact o3.re [2, 3, 1, 0] 1
end
end Go.Proofs.Ytkmlkpfabkhleaa

/- append(s, x...) where x may be empty, as an operation of a list and as a step of a region that draws its order. -/
namespace Go.Proofs.Ytkmlkpfabkhleaa
open Go.RowKit
open SP

/-- What is appended: x has m elements whose cells are news. -/
def IsSrc (w : World) (x : Value) (size m : Nat) (news : List Value) : Prop :=
  ∃ a c, x = .slice a m c ∧ news.length = m * size ∧ (∀ u ∈ news, u.oneCell' = true) ∧ (m = 0 ∨ ∃ ad, a = some ad ∧ ∀ (j : Nat) u, news[j]? = some u → w.cell? (ad.add j) = some u)

section
variable {w : World} {l : List SP} {P : Program} {t e : TypeId} {size bytes : Nat}

theorem run_append_src (ty : TypeId) (E : ElemT P t e size bytes) {a : Option Addr} {n cap : Nat} {xs : List Value} (o : Own w (SP.slc e size a n cap xs :: l)) {x : Value} {m : Nat} {news : List Value} (hx : IsSrc w x size m news)
    (h63 : n + m ≤ maxLen) (hbytes : (n + m) * bytes ≤ 140737488355328) :
    ∃ a' cap' w', (Builtin.append_ #[t, t] ty #[.slice a n cap, x]).run P w = .ok (.slice a' (n + m) cap') w' ∧ Own w' (SP.slc e size a' (n + m) cap' (xs ++ news) :: l) ∧ Calm w w' := by
  obtain ⟨b, c, rfl, hl, h1, hb⟩ := hx
  rcases hb with rfl | ⟨ad, rfl, hc⟩
  · have hn : news = [] := List.eq_nil_of_length_eq_zero (by simpa using hl)
    subst hn
    obtain ⟨ht, ⟨i, z, hi, hz, rfl, rfl, hzs⟩, hsz⟩ := E
    have hnc := o.slc_len.2.1
    refine ⟨a, cap, w, ?_, by simpa using o, Calm.refl w⟩
    cases b <;> cases a <;> first
      | (have h0 : n = 0 ∧ cap = 0 := by
          rcases Own.slc.1 o with ⟨_, h, h', _⟩ | ⟨_, _, h, _⟩
          · exact ⟨h, h'⟩
          · cases h
         obtain ⟨rfl, rfl⟩ := h0
         simp [Builtin.append_, run_underlying ht, sizeOf, typeInfo, hi, Builtin.lenOf, Builtin.firstCells, loadCells, loadCellsFrom])
      | simp [Builtin.append_, run_underlying ht, sizeOf, typeInfo, hi, Builtin.lenOf, Builtin.firstCells, loadCells, loadCellsFrom, hnc, storeCells]
  · exact run_append_slc ty E o ad m c news hl hc h1 h63 hbytes

theorem wpList_append_src {ops : Array Oper} {rest : List Oper} {op : Oper} {A : Act} {Q : Exit → Act → World → Prop} (hgd : op.guard = none) (s x : Operand)
    (hop : op.op = .call { callee := .builtin .append, args := #[s, x], argTypes := #[t, t] })
    (E : ElemT P t e size bytes) {a : Option Addr} {n cap : Nat} {xs : List Value} (hs : A.eval s = .slice a n cap) (o : Own w (SP.slc e size a n cap xs :: l))
    {v : Value} {m : Nat} {news : List Value} (hx : A.eval x = v) (hsrc : IsSrc w v size m news)
    (h63 : n + m ≤ maxLen) (hbytes : (n + m) * bytes ≤ 140737488355328)
    (h : ∀ a' cap' w', Own w' (SP.slc e size a' (n + m) cap' (xs ++ news) :: l) → Calm w w' → wpList P ops Q rest (A.put op.dst (.slice a' (n + m) cap')) w') : wpList P ops Q (op :: rest) A w := by
  refine wpList_plain hgd fun K hK => ?_
  obtain ⟨a', cap', w', hr, h2, h3⟩ := run_append_src op.type E o hsrc h63 hbytes
  unfold Oper.wp execOp
  simp only [hop, resolve, invoke, builtin, Sem.run_bind, Sem.run_pure, Result.andThen_ok, List.map_toArray, List.map_cons, List.map_nil, hs, hx, hr]
  exact hK _ _ (h a' cap' w' h2 h3)

theorem step_append_src {ops : Array Oper} {op : Oper} {A : Act} {K : Act → World → Prop} {Q : Exit → Act → World → Prop} {F : Prop} (hgd : op.guard = none) (s x : Operand)
    (hop : op.op = .call { callee := .builtin .append, args := #[s, x], argTypes := #[t, t] })
    (E : ElemT P t e size bytes) {a : Option Addr} {n cap : Nat} {xs : List Value} (hs : A.eval s = .slice a n cap) (o : Own w (SP.slc e size a n cap xs :: l))
    {v : Value} {m : Nat} {news : List Value} (hx : A.eval x = v) (hsrc : IsSrc w v size m news)
    (h63 : n + m ≤ maxLen) (hbytes : (n + m) * bytes ≤ 140737488355328)
    (h : ∀ a' cap' w', Own w' (SP.slc e size a' (n + m) cap' (xs ++ news) :: l) → Calm w w' → K (A.put op.dst (.slice a' (n + m) cap')) w') :
    if Region.wanted op (yielded ops A.tmps) = true then Oper.wp P op A w K Q else F := by
  have hw : Region.wanted op (yielded ops A.tmps) = true := by simp [Region.wanted, hgd]
  rw [if_pos hw]
  obtain ⟨a', cap', w', hr, h2, h3⟩ := run_append_src op.type E o hsrc h63 hbytes
  unfold Oper.wp execOp
  simp only [hop, resolve, invoke, builtin, Sem.run_bind, Sem.run_pure, Result.andThen_ok, List.map_toArray, List.map_cons, List.map_nil, hs, hx, hr]
  exact h a' cap' w' h2 h3

/-- A slice of no element in a block of its own. -/
theorem slc_zero {b : Nat} (o : Own w (SP.cel b e [] :: l)) : Own w (SP.slc e size (some ⟨b, 0, none⟩) 0 0 [] :: l) :=
  Own.slc.2 (.inr ⟨b, [], rfl, Nat.le_refl _, by unfold maxLen; omega, by simp, by simp, o⟩)
theorem slc_plus {a : Option Addr} {n cap : Nat} {xs : List Value} (o : Own w (SP.slc e size a (0 + n) cap ([] ++ xs) :: l)) : Own w (SP.slc e size a n cap xs :: l) := by
  rw [Nat.zero_add, List.nil_append] at o
  exact o
end
end Go.Proofs.Ytkmlkpfabkhleaa
