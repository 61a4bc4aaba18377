/- Slices and maps in the separation logic: append, lookup, update, delete. -/
import Derived.Test.YtlccalkikjfimaaGreatDoorSl
namespace Go.Proofs.YtlccalkikjfimaaGreatDoor
open Go.RowKit
open SP

/-- What a walk needs to know of a slice type t with elements of type e. -/
structure ElemT (P : Program) (t e : TypeId) (size bytes : Nat) : Prop where
  und : P.underlying t = some (.slice e)
  info : ∃ i z, P.info? e = some i ∧ i.zero = some z ∧ i.size = size ∧ i.bytes = bytes ∧ z.cells.size = size
  pos : 0 < size

theorem ElemT.mk' {P : Program} {t e : TypeId} {z : Value} {size bytes : Nat} (hu : P.underlying t = some (.slice e)) (h : (P.info? e).map (fun i => (i.zero, i.size, i.bytes)) = some (some z, size, bytes))
    (hz : z.cells.size = size) (hp : 0 < size) : ElemT P t e size bytes :=
  ⟨hu, let ⟨i, h1, h2, h3, h4⟩ := info_parts h; ⟨i, z, h1, h2, h3, h4, hz⟩, hp⟩

/-- The slice '.slice a n cap' has the elements whose cells are xs, and owns its array. -/
def SP.slc (e : TypeId) (size : Nat) (a : Option Addr) (n cap : Nat) (xs : List Value) : SP := ex fun (p : Option (Nat × List Value)) =>
  match p with
  | none => pu (a = none ∧ n = 0 ∧ cap = 0 ∧ xs = [])
  | some (b, sp) => st [pu (a = some ⟨b, 0, none⟩ ∧ n ≤ cap ∧ cap ≤ maxLen ∧ xs.length = n * size ∧ sp.length = (cap - n) * size), cel b e (xs ++ sp)]

section
variable {w : World} {l : List SP} {P : Program} {t e : TypeId} {size bytes : Nat}

theorem Own.slc {a : Option Addr} {n cap : Nat} {xs : List Value} : Own w (SP.slc e size a n cap xs :: l) ↔
    (a = none ∧ n = 0 ∧ cap = 0 ∧ xs = [] ∧ Own w l) ∨
    ∃ b sp, a = some ⟨b, 0, none⟩ ∧ n ≤ cap ∧ cap ≤ maxLen ∧ xs.length = n * size ∧ sp.length = (cap - n) * size ∧ Own w (SP.cel b e (xs ++ sp) :: l) := by
  constructor
  · intro o
    obtain ⟨p, o⟩ := Own.ex.1 o
    cases p with
    | none => obtain ⟨⟨h1, h2, h3, h4⟩, o⟩ := Own.pu.1 o; exact .inl ⟨h1, h2, h3, h4, o⟩
    | some p => obtain ⟨⟨h1, h2, h3, h4, h5⟩, o⟩ := Own.pu.1 (Own.st.1 o); exact .inr ⟨p.1, p.2, h1, h2, h3, h4, h5, o⟩
  · rintro (⟨h1, h2, h3, h4, o⟩ | ⟨b, sp, h1, h2, h3, h4, h5, o⟩)
    · exact Own.ex.2 ⟨none, Own.pu.2 ⟨⟨h1, h2, h3, h4⟩, o⟩⟩
    · exact Own.ex.2 ⟨some (b, sp), Own.st.2 (Own.pu.2 ⟨⟨h1, h2, h3, h4, h5⟩, o⟩)⟩

theorem Own.slc_len {a : Option Addr} {n cap : Nat} {xs : List Value} (o : Own w (SP.slc e size a n cap xs :: l)) : xs.length = n * size ∧ n ≤ cap ∧ cap ≤ maxLen := by
  rcases Own.slc.1 o with ⟨_, rfl, rfl, rfl, _⟩ | ⟨_, _, _, h1, h2, h3, _⟩
  · simp
  · exact ⟨h3, h1, h2⟩

theorem Own.slc_nil (o : Own w l) : Own w (SP.slc e size none 0 0 [] :: l) := Own.slc.2 (.inl ⟨rfl, rfl, rfl, rfl, o⟩)

/-- The cells of a slice's elements. -/
theorem Own.slc_cell {a : Option Addr} {n cap : Nat} {xs : List Value} (o : Own w (SP.slc e size a n cap xs :: l)) (hn : 0 < n) :
    ∃ b, a = some ⟨b, 0, none⟩ ∧ (∀ (j : Nat) u, xs[j]? = some u → w.cell? ⟨b, j, none⟩ = some u) ∧ (∀ j, w.frozen? ⟨b, j, none⟩ = false) ∧ b < w.heap.size := by
  rcases Own.slc.1 o with ⟨_, h, _⟩ | ⟨b, sp, h1, _, _, _, _, o⟩
  · omega
  · refine ⟨b, h1, fun j u hu => Own.cell o j ?_, Own.frozen o, Own.celLt o⟩
    rw [List.getElem?_append_left (List.getElem?_eq_some_iff.1 hu).1]; exact hu

/-- One cell of an element is stored anew. -/
theorem Own.slc_set {b : Nat} {n cap : Nat} {xs : List Value} (o : Own w (SP.slc e size (some ⟨b, 0, none⟩) n cap xs :: l)) (j : Nat) (v : Value) (hj : j < xs.length) :
    Own (w.setCell ⟨b, j, none⟩ v) (SP.slc e size (some ⟨b, 0, none⟩) n cap (xs.set j v) :: l) := by
  rcases Own.slc.1 o with ⟨h, _⟩ | ⟨b', sp, h1, h2, h3, h4, h5, o⟩
  · cases h
  · simp only [Option.some.injEq, Addr.mk.injEq] at h1
    obtain ⟨rfl, _, _⟩ := h1
    refine Own.slc.2 (.inr ⟨b, sp, rfl, h2, h3, by simpa using h4, h5, ?_⟩)
    have := o.setCell j v
    rwa [List.set_append_left _ _ hj] at this

theorem Own.setRow {g : Nat} {T : TypeId} {vs : List Value} (o : Own w (SP.cel g T vs :: l)) (us : List Value) : Own (w.setRow g us.toArray) (SP.cel g T us :: l) :=
  Own.put o (setRow_heap w g _ _ T _ (Own.blk o)) (fun k hk _ => setRow_other w g k _ hk)

theorem run_append_slc (ty : TypeId) (E : ElemT P t e size bytes) {a : Option Addr} {n cap : Nat} {xs : List Value} (o : Own w (SP.slc e size a n cap xs :: l))
    (ad : Addr) (m c : Nat) (news : List Value) (hl : news.length = m * size) (hnews : ∀ j u, news[j]? = some u → w.cell? (ad.add j) = some u) (h1 : ∀ u ∈ news, u.oneCell' = true)
    (h63 : n + m ≤ maxLen) (hbytes : (n + m) * bytes ≤ 140737488355328) :
    ∃ a' cap' w', (Builtin.append_ #[t, t] ty #[.slice a n cap, .slice (some ad) m c]).run P w = .ok (.slice a' (n + m) cap') w' ∧ Own w' (SP.slc e size a' (n + m) cap' (xs ++ news) :: l) ∧ Calm w w' := by
  obtain ⟨ht, ⟨i, z, hi, hz, rfl, rfl, hzs⟩, hsz⟩ := E
  have hsmall : n + m ≤ 9223372036854775807 := by simp only [maxLen] at h63; omega
  have grown : ∀ (old : Nat) (o' : Own w l), old < n + m → xs.length = n * i.size →
      Own (w.drew.alloc (.cells (xs.toArray ++ news.toArray ++ Builtin.zeroCells z.cells (grownCap w (n + m) old e - (n + m))) e))
        (SP.slc e i.size (some ⟨w.heap.size, 0, none⟩) (n + m) (grownCap w (n + m) old e) (xs ++ news) :: l) := by
    intro old o' ho hx
    refine Own.slc.2 (.inr ⟨w.heap.size, (Builtin.zeroCells z.cells (grownCap w (n + m) old e - (n + m))).toList, rfl, grownCap_ge _ _ _ _, grownCap_le_maxLen _ _ _ _ h63, ?_, ?_, ?_⟩)
    · rw [List.length_append, hx, hl, Nat.add_mul]
    · simp [size_zeroCells, hzs]
    · have := Own.alloc (w := w.drew) o'.drew (.cells (xs.toArray ++ news.toArray ++ Builtin.zeroCells z.cells (grownCap w (n + m) old e - (n + m))) e)
      unfold SP.cel
      have e1 : (xs ++ news ++ (Builtin.zeroCells z.cells (grownCap w (n + m) old e - (n + m))).toList).toArray = xs.toArray ++ news.toArray ++ Builtin.zeroCells z.cells (grownCap w (n + m) old e - (n + m)) := by simp
      rw [e1]
      exact this
  rcases Own.slc.1 o with ⟨rfl, rfl, rfl, rfl, o1⟩ | ⟨g, sp, rfl, hnc, hcm, hxl, hsl, o1⟩
  · by_cases hm : m = 0
    · subst hm
      have hn : news = [] := List.eq_nil_of_length_eq_zero (by simpa using hl)
      subst hn
      refine ⟨none, 0, w, ?_, by simpa using o, Calm.refl w⟩
      simp [Builtin.append_, run_underlying ht, sizeOf, typeInfo, hi, Builtin.lenOf, Builtin.firstCells, loadCells, loadCellsFrom]
    · have hr := run_append_nil (P := P) w t ty e i z ht hi hz ad m c news hl hnews (by omega) (by omega) (by have hb := hbytes; simp only [Nat.zero_add] at hb; omega)
      have hgr := grown 0 o1 (by omega) (by simp)
      simp only [Nat.zero_add, List.nil_append, Array.empty_append] at hgr ⊢
      exact ⟨_, _, _, hr, hgr, ⟨rfl, rfl, rfl⟩⟩
  · have hg : w.heap[g]? = some (.cells (xs ++ sp).toArray e (0, 0)) := Own.blk o1
    by_cases hroom : n + m ≤ cap
    · have hmn : m * i.size ≤ (cap - n) * i.size := Nat.mul_le_mul_right _ (by omega)
      have hfit : n * i.size + news.length ≤ (xs ++ sp).toArray.size := by simp only [List.size_toArray, List.length_append, hxl, hsl, hl]; omega
      have hr := run_append_room (P := P) w t ty e i ht hi g n cap (xs ++ sp).toArray hg ad m c news hl hnews h1 hroom hfit
      refine ⟨_, _, _, hr, ?_, ⟨rfl, rfl, rfl⟩⟩
      have e1 : (xs ++ sp).toArray.toList.take (n * i.size) ++ news ++ (xs ++ sp).toArray.toList.drop (n * i.size + news.length) = (xs ++ news) ++ sp.drop news.length := by
        simp only [← hxl, List.take_left]
        rw [← List.drop_drop, List.drop_left]
      rw [e1]
      refine Own.slc.2 (.inr ⟨g, sp.drop news.length, rfl, hroom, hcm, ?_, ?_, o1.setRow _⟩)
      · rw [List.length_append, hxl, hl, Nat.add_mul]
      · rw [List.length_drop, hsl, hl, ← Nat.sub_mul]; congr 1; omega
    · have holds : ∀ j u, xs[j]? = some u → w.cell? ((⟨g, 0, none⟩ : Addr).add j) = some u := by
        intro j u hu
        have hadd : (⟨g, 0, none⟩ : Addr).add j = ⟨g, j, none⟩ := by unfold Addr.add; split <;> simp_all
        rw [hadd]
        refine Own.cell o1 j ?_
        rw [List.getElem?_append_left (List.getElem?_eq_some_iff.1 hu).1]; exact hu
      have hr := run_append_grow (P := P) w t ty e i z ht hi hz ⟨g, 0, none⟩ n cap xs hxl holds ad m c news hl hnews (by omega) (by omega) (growslice_fits (by omega) hbytes)
      exact ⟨_, _, _, hr, grown cap o1.drop (by omega) hxl, ⟨rfl, rfl, rfl⟩⟩

/-- The cells of a row, as an append's law asks for them. -/
theorem Own.news {g : Nat} {T : TypeId} {vs : List Value} (o : Own w (SP.cel g T vs :: l)) : ∀ j u, vs[j]? = some u → w.cell? ((⟨g, 0, none⟩ : Addr).add j) = some u := by
  intro j u hu
  have hadd : (⟨g, 0, none⟩ : Addr).add j = ⟨g, j, none⟩ := by unfold Addr.add; split <;> simp_all
  rw [hadd]
  exact Own.cell o j hu

/-- The operation 'append(s, x...)' where x has an array. -/
theorem wpList_append_slc {ops : Array Oper} {rest : List Oper} {op : Oper} {A : Act} {Q : Exit → Act → World → Prop} (hgd : op.guard = none) (s x : Operand)
    (hop : op.op = .call { callee := .builtin .append, args := #[s, x], argTypes := #[t, t] })
    (E : ElemT P t e size bytes) {a : Option Addr} {n cap : Nat} {xs : List Value} (hs : A.eval s = .slice a n cap) (o : Own w (SP.slc e size a n cap xs :: l))
    (ad : Addr) (m c : Nat) (news : List Value) (hx : A.eval x = .slice (some ad) m c) (hl : news.length = m * size) (hnews : ∀ j u, news[j]? = some u → w.cell? (ad.add j) = some u) (h1 : ∀ u ∈ news, u.oneCell' = true)
    (h63 : n + m ≤ maxLen) (hbytes : (n + m) * bytes ≤ 140737488355328)
    (h : ∀ a' cap' w', Own w' (SP.slc e size a' (n + m) cap' (xs ++ news) :: l) → Calm w w' → wpList P ops Q rest (A.put op.dst (.slice a' (n + m) cap')) w') : wpList P ops Q (op :: rest) A w := by
  refine wpList_plain hgd fun K hK => ?_
  obtain ⟨a', cap', w', hr, h2, h3⟩ := run_append_slc op.type E o ad m c news hl hnews h1 h63 hbytes
  unfold Oper.wp execOp
  simp only [hop, resolve, invoke, builtin, Sem.run_bind, Sem.run_pure, Result.andThen_ok, List.map_toArray, List.map_cons, List.map_nil, hs, hx, hr]
  exact hK _ _ (h a' cap' w' h2 h3)
end

/-! ### Maps whose keys are ints -/
section
variable {α : Type}
def mget : List (Int × α) → Int → Option α
  | [], _ => none
  | (k', v) :: m, k => if k = k' then some v else mget m k
def mput : List (Int × α) → Int → α → List (Int × α)
  | [], k, v => [(k, v)]
  | (k', v') :: m, k, v => if k = k' then (k, v) :: m else (k', v') :: mput m k v
def mdel : List (Int × α) → Int → List (Int × α)
  | [], _ => []
  | (k', v') :: m, k => if k = k' then m else (k', v') :: mdel m k
def midx : List (Int × α) → Int → Option Nat
  | [], _ => none
  | (k', _) :: m, k => if k = k' then some 0 else (midx m k).map (· + 1)

/-- Block b is a map that holds these pairs, in the order of their insertion. -/
def SP.mpI (f : α → Value) (b : Nat) (m : List (Int × α)) : SP := ex fun (p : Array MapEntry × Nat) =>
  st [pu (p.1.toList.map (fun e => (e.key, e.val)) = m.map (fun x => (Value.int .i64 x.1, f x.2)) ∧ p.1.toList.Pairwise (fun x y => x.born < y.born) ∧ ∀ e ∈ p.1.toList, e.born < p.2), blk b (.map p.1 p.2)]

variable {w : World} {l : List SP} {P : Program} {t kt et : TypeId} {f : α → Value} {b : Nat} {m : List (Int × α)}

theorem Own.mpI : Own w (SP.mpI f b m :: l) ↔ ∃ es clock, es.toList.map (fun e : MapEntry => (e.key, e.val)) = m.map (fun x => (Value.int .i64 x.1, f x.2)) ∧
    es.toList.Pairwise (fun x y => x.born < y.born) ∧ (∀ e ∈ es.toList, e.born < clock) ∧ Own w (SP.blk b (.map es clock) :: l) := by
  constructor
  · intro o
    obtain ⟨⟨es, clock⟩, o⟩ := Own.ex.1 o
    obtain ⟨⟨h1, h2, h3⟩, o⟩ := Own.pu.1 (Own.st.1 o)
    exact ⟨es, clock, h1, h2, h3, o⟩
  · rintro ⟨es, clock, h1, h2, h3, o⟩
    exact Own.ex.2 ⟨(es, clock), Own.st.2 (Own.pu.2 ⟨⟨h1, h2, h3⟩, o⟩)⟩

theorem findNow_int (k : Int) : ∀ (es : List MapEntry) (m : List (Int × α)) (n : Nat), es.map (fun e => (e.key, e.val)) = m.map (fun x => (Value.int .i64 x.1, f x.2)) →
    Instr.findNow (.int .i64) (.int .i64 k) es n = some (match midx m k, mget m k with | some i, some v => some (n + i, f v) | _, _ => none)
  | [], [], n, _ => rfl
  | [], _ :: _, _, h => by simp at h
  | _ :: _, [], _, h => by simp at h
  | e :: es, (k', v) :: m, n, h => by
    simp only [List.map_cons, List.cons.injEq, Prod.mk.injEq] at h
    obtain ⟨⟨h1, h2⟩, h3⟩ := h
    unfold Instr.findNow
    rw [h1]
    by_cases hk : k = k'
    · subst hk
      simp [Instr.sameNow, midx, mget, h2]
    · have hb : (k == k') = false := by simpa using hk
      have ih := findNow_int k es m (n + 1) h3
      simp only [Instr.sameNow, if_true, hb, midx, mget, if_neg hk]
      rw [ih]
      cases midx m k <;> cases mget m k <;> simp [Nat.add_assoc, Nat.add_comm 1]

theorem midx_mget (m : List (Int × α)) (k : Int) : (midx m k).isSome = (mget m k).isSome := by
  induction m with
  | nil => rfl
  | cons x m ih =>
    obtain ⟨k', v⟩ := x
    unfold midx mget
    split
    · rfl
    · simpa using ih

theorem run_checkKey_int {P : Program} {kt : TypeId} (hk : P.underlying kt = some (.int .i64)) (em : Bool) (n : Nat) (k : Int) (w : World) : (Instr.checkKey em (n + 1) kt (.int .i64 k)).run P w = .ok () w := by
  simp [Instr.checkKey, run_underlying hk]

theorem run_findKey_int {P : Program} {kt : TypeId} (hk : P.underlying kt = some (.int .i64)) {es : List MapEntry} (h : es.map (fun e => (e.key, e.val)) = m.map (fun x => (Value.int .i64 x.1, f x.2))) (k : Int) (w : World) :
    (Instr.findKey kt (.int .i64 k) es).run P w = .ok (match midx m k, mget m k with | some i, some v => some (i, f v) | _, _ => none) w := by
  have := findNow_int (f := f) k es m 0 h
  simp only [Nat.zero_add] at this
  simp [Instr.findKey, run_underlying hk, this]

theorem run_lookup_mpI (ht : P.underlying t = some (.map kt et)) (hk : P.underlying kt = some (.int .i64)) {z : Value} (hz : ∀ w, (zeroValue et).run P w = .ok z w)
    (o : Own w (SP.mpI f b m :: l)) (k : Int) (ok : Bool) :
    (Instr.lookup t (.map (some b)) (.int .i64 k) ok).run P w = .ok (if ok then .tuple #[((mget m k).map f).getD z, .bool (mget m k).isSome] else ((mget m k).map f).getD z) w := by
  obtain ⟨es, clock, h1, _, _, o⟩ := Own.mpI.1 o
  have hb := o.blk
  have hm := midx_mget m k
  have hf := run_findKey_int (P := P) hk h1 k w
  cases hmi : midx m k <;> cases hmg : mget m k <;> simp [hmi, hmg] at hm hf <;>
    cases ok <;> simp [Instr.lookup, run_underlying ht, getObj, Sem.run, hb, run_checkKey_int hk, hf, hz w]

theorem mput_lists (k : Int) (v : α) : ∀ (es : List MapEntry) (m : List (Int × α)) (i : Nat), es.map (fun e => (e.key, e.val)) = m.map (fun x => (Value.int .i64 x.1, f x.2)) → midx m k = some i →
    (es.modify i fun e => { e with key := .int .i64 k, val := f v }).map (fun e => (e.key, e.val)) = (mput m k v).map (fun x => (Value.int .i64 x.1, f x.2)) ∧ (∃ e, es[i]? = some e ∧ e.key = .int .i64 k)
  | [], [], i, _, hi => by simp [midx] at hi
  | [], _ :: _, _, h, _ => by simp at h
  | _ :: _, [], _, h, _ => by simp at h
  | e :: es, (k', v') :: m, i, h, hi => by
    simp only [List.map_cons, List.cons.injEq, Prod.mk.injEq] at h
    obtain ⟨⟨h1, h2⟩, h3⟩ := h
    unfold midx at hi
    by_cases hk : k = k'
    · subst hk
      simp at hi
      subst hi
      simp [mput, h3, h1]
    · simp only [if_neg hk, Option.map_eq_some_iff] at hi
      obtain ⟨j, hj, rfl⟩ := hi
      obtain ⟨h4, h5⟩ := mput_lists k v es m j h3 hj
      simp only [mput, if_neg hk]
      refine ⟨?_, by simpa using h5⟩
      simp [h1, h2, h4]

theorem mput_new (k : Int) (v : α) : ∀ (m : List (Int × α)), midx m k = none → mput m k v = m ++ [(k, v)]
  | [], _ => rfl
  | (k', v') :: m, h => by
    unfold midx at h
    by_cases hk : k = k'
    · simp [hk] at h
    · simp only [if_neg hk, Option.map_eq_none_iff] at h
      simp [mput, if_neg hk, mput_new k v m h]

theorem pairwise_modify {es : List MapEntry} (g : MapEntry → MapEntry) (hg : ∀ e, (g e).born = e.born) (i : Nat) (h : es.Pairwise (fun x y => x.born < y.born)) : (es.modify i g).Pairwise (fun x y => x.born < y.born) := by
  have e1 : ∀ l : List MapEntry, l.Pairwise (fun x y => x.born < y.born) ↔ (l.map (·.born)).Pairwise (· < ·) := fun l => by rw [List.pairwise_map]
  have e2 : (es.modify i g).map (·.born) = es.map (·.born) := by
    apply List.ext_getElem?
    intro j
    simp only [List.getElem?_map, List.getElem?_modify]
    cases es[j]? <;> simp
    split <;> simp [hg]
  rw [e1, e2, ← e1]; exact h

theorem mem_modify_born {es : List MapEntry} (g : MapEntry → MapEntry) (hg : ∀ e, (g e).born = e.born) (i : Nat) {c : Nat} (h : ∀ e ∈ es, e.born < c) : ∀ e ∈ es.modify i g, e.born < c := by
  intro e he
  obtain ⟨j, hj⟩ := List.getElem?_of_mem he
  rw [List.getElem?_modify] at hj
  cases hx : es[j]? with
  | none => rw [hx] at hj; cases hj
  | some x =>
    rw [hx] at hj
    have hxm := h x (List.mem_of_getElem? hx)
    simp at hj
    split at hj <;> subst hj
    · rw [hg]; exact hxm
    · exact hxm

theorem run_mapUpdate_mpI (ht : P.underlying t = some (.map kt et)) (hk : P.underlying kt = some (.int .i64)) (o : Own w (SP.mpI f b m :: l)) (k : Int) (v : α) :
    ∃ w', (Instr.mapUpdate t (.map (some b)) (.int .i64 k) (f v)).run P w = .ok () w' ∧ Own w' (SP.mpI f b (mput m k v) :: l) ∧ Calm w w' := by
  obtain ⟨es, clock, h1, h2, h3, o⟩ := Own.mpI.1 o
  have hb := o.blk
  have hm := midx_mget m k
  have hf := run_findKey_int (P := P) hk h1 k w
  cases hmi : midx m k with
  | none =>
    have hmg : mget m k = none := by rw [hmi] at hm; simpa using hm.symm
    simp [hmi] at hf
    refine ⟨_, ?_, Own.mpI.2 ⟨es.push { key := .int .i64 k, val := f v, born := clock }, clock + 1, ?_, ?_, ?_, o.setMap _⟩, ⟨rfl, rfl, rfl⟩⟩
    · simp [Instr.mapUpdate, run_underlying ht, getObj, setObj, Sem.run, hb, run_checkKey_int hk, hf]
    · rw [mput_new k v m hmi]; simp [h1]
    · simp only [Array.toList_push, List.pairwise_append]
      exact ⟨h2, by simp, fun a ha c hc => by simp at hc; subst hc; exact h3 a ha⟩
    · intro e he
      simp at he
      rcases he with he | rfl
      · have := h3 e (by simpa using he); omega
      · simp
  | some i =>
    obtain ⟨x, hmg⟩ : ∃ x, mget m k = some x := by rw [hmi] at hm; exact Option.isSome_iff_exists.1 (by simpa using hm.symm)
    obtain ⟨h4, e0, h5, h6⟩ := mput_lists (f := f) k v es.toList m i h1 hmi
    have h5' : es[i]? = some e0 := by simpa using h5
    simp [hmi, hmg] at hf
    refine ⟨_, ?_, Own.mpI.2 ⟨es.modify i fun e => { e with key := .int .i64 k, val := f v }, clock, ?_, ?_, ?_, o.setMap _⟩, ⟨rfl, rfl, rfl⟩⟩
    · simp [Instr.mapUpdate, run_underlying ht, getObj, setObj, Sem.run, hb, run_checkKey_int hk, hf, h5', h6, Instr.keyThatStays, Instr.sameBits]
    · rw [Array.toList_modify]; exact h4
    · rw [Array.toList_modify]; exact pairwise_modify (fun e => { e with key := .int .i64 k, val := f v }) (fun _ => rfl) i h2
    · rw [Array.toList_modify]; exact mem_modify_born (fun e => { e with key := .int .i64 k, val := f v }) (fun _ => rfl) i h3

theorem mdel_lists (k : Int) : ∀ (es : List MapEntry) (m : List (Int × α)), es.map (fun e => (e.key, e.val)) = m.map (fun x => (Value.int .i64 x.1, f x.2)) →
    (∀ i, midx m k = some i → (es.eraseIdx i).map (fun e => (e.key, e.val)) = (mdel m k).map (fun x => (Value.int .i64 x.1, f x.2))) ∧ (midx m k = none → mdel m k = m)
  | [], [], _ => by simp [midx, mdel]
  | [], _ :: _, h => by simp at h
  | _ :: _, [], h => by simp at h
  | e :: es, (k', v') :: m, h => by
    simp only [List.map_cons, List.cons.injEq, Prod.mk.injEq] at h
    obtain ⟨⟨h1, h2⟩, h3⟩ := h
    obtain ⟨h4, h5⟩ := mdel_lists k es m h3
    by_cases hk : k = k'
    · subst hk
      simp [midx, mdel, h3]
    · simp only [midx, mdel, if_neg hk]
      refine ⟨fun i hi => ?_, fun hi => ?_⟩
      · rw [Option.map_eq_some_iff] at hi
        obtain ⟨j, hj, rfl⟩ := hi
        simp [h1, h2, h4 j hj]
      · rw [Option.map_eq_none_iff] at hi
        rw [h5 hi]

theorem run_delete_mpI (ty : TypeId) (ht : P.underlying t = some (.map kt et)) (hk : P.underlying kt = some (.int .i64)) (o : Own w (SP.mpI f b m :: l)) (k : Int) (ts : Array TypeId) (hts : ts[0]? = some t) :
    ∃ w', (Builtin.delete_ ts ty #[.map (some b), .int .i64 k]).run P w = .ok (.tuple #[]) w' ∧ Own w' (SP.mpI f b (mdel m k) :: l) ∧ Calm w w' := by
  obtain ⟨es, clock, h1, h2, h3, o⟩ := Own.mpI.1 o
  have hb := o.blk
  have hm := midx_mget m k
  have hf := run_findKey_int (P := P) hk h1 k w
  obtain ⟨h4, h5⟩ := mdel_lists (f := f) k es.toList m h1
  cases hmi : midx m k with
  | none =>
    simp [hmi] at hf
    refine ⟨_, ?_, Own.mpI.2 ⟨es, clock, ?_, h2, h3, o.setMap _⟩, ⟨rfl, rfl, rfl⟩⟩
    · simp [Builtin.delete_, hts, run_underlying ht, getObj, setObj, Sem.run, hb, run_checkKey_int hk, hf]
    · rw [h5 hmi]; exact h1
  | some i =>
    obtain ⟨x, hmg⟩ : ∃ x, mget m k = some x := by rw [hmi] at hm; exact Option.isSome_iff_exists.1 (by simpa using hm.symm)
    simp [hmi, hmg] at hf
    have e1 : (es.eraseIdxIfInBounds i).toList = es.toList.eraseIdx i := by simp
    refine ⟨_, ?_, Own.mpI.2 ⟨es.eraseIdxIfInBounds i, clock, ?_, ?_, ?_, o.setMap _⟩, ⟨rfl, rfl, rfl⟩⟩
    · simp [Builtin.delete_, hts, run_underlying ht, getObj, setObj, Sem.run, hb, run_checkKey_int hk, hf]
    · rw [e1]; exact h4 i hmi
    · rw [e1]; exact h2.sublist (List.eraseIdx_sublist _ _)
    · rw [e1]; exact fun e he => h3 e ((List.eraseIdx_sublist _ _).subset he)

theorem Own.mpI_made (o : Own w l) : Own (w.alloc (.map #[] 0)) (SP.mpI f w.heap.size ([] : List (Int × α)) :: l) :=
  Own.mpI.2 ⟨#[], 0, rfl, by simp, by simp, o.alloc _⟩

theorem wpList_mapUpdate_mpI {ops : Array Oper} {rest : List Oper} {op : Oper} {A : Act} {Q : Exit → Act → World → Prop} (hgd : op.guard = none) (x y v : Operand) (hop : op.op = Op.mapUpdate t x y v)
    (ht : P.underlying t = some (.map kt et)) (hk : P.underlying kt = some (.int .i64)) (o : Own w (SP.mpI f b m :: l)) (k : Int) (u : α)
    (hx : A.eval x = .map (some b)) (hy : A.eval y = .int .i64 k) (hv : A.eval v = f u)
    (h : ∀ w', Own w' (SP.mpI f b (mput m k u) :: l) → Calm w w' → wpList P ops Q rest (A.put op.dst undef) w') : wpList P ops Q (op :: rest) A w := by
  refine wpList_plain hgd fun K hK => ?_
  obtain ⟨w', hr, h2, h3⟩ := run_mapUpdate_mpI ht hk o k u
  unfold Oper.wp
  simp [execOp, hop, hx, hy, hv, hr, Result.andThen]
  exact hK _ _ (h w' h2 h3)

theorem wpList_delete_mpI {ops : Array Oper} {rest : List Oper} {op : Oper} {A : Act} {Q : Exit → Act → World → Prop} (hgd : op.guard = none) (x y : Operand)
    (hop : op.op = .call { callee := .builtin .delete, args := #[x, y], argTypes := #[t, kt] })
    (ht : P.underlying t = some (.map kt et)) (hk : P.underlying kt = some (.int .i64)) (o : Own w (SP.mpI f b m :: l)) (k : Int)
    (hx : A.eval x = .map (some b)) (hy : A.eval y = .int .i64 k)
    (h : ∀ w', Own w' (SP.mpI f b (mdel m k) :: l) → Calm w w' → wpList P ops Q rest (A.put op.dst (.tuple #[])) w') : wpList P ops Q (op :: rest) A w := by
  refine wpList_plain hgd fun K hK => ?_
  obtain ⟨w', hr, h2, h3⟩ := run_delete_mpI op.type ht hk o k #[t, kt] rfl
  unfold Oper.wp execOp
  simp only [hop, resolve, invoke, builtin, Sem.run_bind, Sem.run_pure, Result.andThen_ok, List.map_toArray, List.map_cons, List.map_nil, hx, hy, hr]
  exact hK _ _ (h w' h2 h3)
end

/-! ### Regions that draw their order: quiet operations, then operations in one forced order -/
theorem wp_region_tail {P : Program} {id : Nat} {Q : Exit → Act → World → Prop} {a : Act} {w : World} {l : List Oper} (n : Nat) (hm : P.follows .mixedOrders = true) (hB : Region.lexTailB .any l.toArray n = true)
    (h : wpStill P l.toArray w.drew (fun a' => wpList P l.toArray Q (l.drop n) a' w.drew) (l.take n) a) : (Code.region id l.toArray true).wp P Q a w :=
  wp_region_still_tail n hm hB h

end Go.Proofs.YtlccalkikjfimaaGreatDoor
