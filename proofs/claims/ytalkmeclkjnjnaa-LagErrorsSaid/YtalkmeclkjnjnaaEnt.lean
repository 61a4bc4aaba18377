/- Assignments to entries of a map that are there: mapEntry and entryStore. -/
import Derived.Test.YtalkmeclkjnjnaaCom
import Derived.WideKeyEntry
namespace Go.Proofs.Ytalkmeclkjnjnaa
open Go.RowKit
open SP
section
variable {α : Type} {f : α → Value} {w w' : World} {l : List SP} {b : Nat} {m : List (Int × α)} {P : Program} {t kt et : TypeId}

/-- The stamp of key k's entry. -/
def BornAt (m : List (Int × α)) (w : World) (b : Nat) (k : Int) (born : Nat) : Prop :=
  ∃ es clock i e, w.heap[b]? = some (.map es clock) ∧ midx m k = some i ∧ es[i]? = some e ∧ e.born = born

theorem run_mapEntry_mpI (ht : P.underlying t = some (.map kt et)) (hk : P.underlying kt = some (.int .i64)) (o : Own w (mpI f b m :: l)) (k : Int) {u : α} (hu : mget m k = some u) :
    ∃ (w' : World) (born : Nat), (Instr.mapEntry t (.map (some b)) (.int .i64 k)).run P w = .ok (.tuple #[f u, .int .i64 (born : Int)]) w' ∧ BornAt m w' b k born ∧ Own w' (mpI f b m :: l) ∧ Calm w w' := by
  obtain ⟨es, clock, h1, h2, h3, o⟩ := Own.mpI.1 o
  have hb := o.blk
  have hm := midx_mget m k
  have hf := run_findKey_int (P := P) hk h1 k w
  rw [hu] at hm
  obtain ⟨i, hmi⟩ : ∃ i, midx m k = some i := Option.isSome_iff_exists.1 (by simpa using hm)
  obtain ⟨h4, e0, h5, h6⟩ := mput_lists (f := f) k u es.toList m i h1 hmi
  have h5' : es[i]? = some e0 := by simpa using h5
  simp [hmi, hu] at hf
  have hsame : (es.modify i fun e => { e with key := .int .i64 k }) = es := by
    apply Array.ext'
    rw [Array.toList_modify]
    refine List.ext_getElem? fun j => ?_
    rw [List.getElem?_modify]
    by_cases hj : i = j
    · subst hj
      rw [h5]
      obtain ⟨ek, ev, eb⟩ := e0
      simp only at h6
      subst h6
      simp
    · simp only [if_neg hj]
      cases es.toList[j]? <;> rfl
  refine ⟨{ w with heap := w.heap.setIfInBounds b (.map es clock) }, e0.born, ?_, ⟨es, clock, i, e0, (o.setMap (.map es clock)).blk, hmi, h5', rfl⟩, Own.mpI.2 ⟨es, clock, h1, h2, h3, o.setMap _⟩, ⟨rfl, rfl, rfl⟩⟩
  · simp [Instr.mapEntry, run_underlying ht, getObj, setObj, Sem.run, hb, run_checkKey_int hk, hf, h5', h6, Instr.keyThatStays, Instr.sameBits, hsame, goInt]

theorem run_entryStore_mpI (o : Own w (mpI f b m :: l)) (k : Int) (v : α) {born : Nat} (hB : BornAt m w b k born) :
    ∃ w', (Instr.entryStore t (.map (some b)) (.int .i64 (born : Int)) (f v)).run P w = .ok () w' ∧ Own w' (mpI f b (mput m k v) :: l) ∧ Calm w w' := by
  obtain ⟨es, clock, h1, h2, h3, o⟩ := Own.mpI.1 o
  have hb := o.blk
  obtain ⟨es', clock', i, e, hb', hmi, he, hborn⟩ := hB
  rw [hb] at hb'
  simp only [Option.some.injEq, Obj.map.injEq] at hb'
  obtain ⟨rfl, rfl⟩ := hb'
  obtain ⟨h4, e0, h5, h6⟩ := mput_lists (f := f) k v es.toList m i h1 hmi
  have h5' : es[i]? = some e0 := by simpa using h5
  rw [h5'] at he
  simp only [Option.some.injEq] at he
  subst he
  have hnd : (es.toList.map (·.born)).Nodup := by
    rw [List.Nodup, List.pairwise_map]
    exact h2.imp fun h => by omega
  have hfi : es.findIdx? (fun x => ((x.born : Nat) : Int) == ((e0.born : Nat) : Int)) = some i := by
    rw [Go.WideElems.findIdx_arr]; exact Go.WideElems.findIdx_born hnd h5
  have hsame : (es.modify i fun e => { e with val := f v }) = es.modify i fun e => { e with key := .int .i64 k, val := f v } := by
    apply Array.ext'
    rw [Array.toList_modify, Array.toList_modify]
    refine List.ext_getElem? fun j => ?_
    rw [List.getElem?_modify, List.getElem?_modify]
    by_cases hj : i = j
    · subst hj
      rw [h5]
      obtain ⟨ek, ev, eb⟩ := e0
      simp only at h6
      subst h6
      simp
    · simp only [if_neg hj]
  refine ⟨_, ?_, Own.mpI.2 ⟨es.modify i fun e => { e with key := .int .i64 k, val := f v }, clock, ?_, ?_, ?_, o.setMap _⟩, ⟨rfl, rfl, rfl⟩⟩
  · rw [← hborn]
    simp [Instr.entryStore, getObj, setObj, Sem.run, hb, asInt, asIntOf, hfi, hsame]
  · rw [Array.toList_modify]; exact h4
  · rw [Array.toList_modify]; exact pairwise_modify (fun e => { e with key := .int .i64 k, val := f v }) (fun _ => rfl) i h2
  · rw [Array.toList_modify]; exact mem_modify_born (fun e => { e with key := .int .i64 k, val := f v }) (fun _ => rfl) i h3

theorem wpList_mapEntry_mpI {ops : Array Oper} {rest : List Oper} {op : Oper} {A : Act} {Q : Exit → Act → World → Prop} (hgd : op.guard = none) (x y : Operand) (hop : op.op = Op.mapEntry t x y)
    (ht : P.underlying t = some (.map kt et)) (hk : P.underlying kt = some (.int .i64)) (o : Own w (mpI f b m :: l)) (k : Int) {u : α} (hu : mget m k = some u)
    (hx : A.eval x = .map (some b)) (hy : A.eval y = .int .i64 k)
    (h : ∀ w' (born : Nat), BornAt m w' b k born → Own w' (mpI f b m :: l) → Calm w w' → wpList P ops Q rest (A.put op.dst (.tuple #[f u, .int .i64 (born : Int)])) w') : wpList P ops Q (op :: rest) A w := by
  refine wpList_plain hgd fun K hK => ?_
  obtain ⟨w', born, hr, h1, h2, h3⟩ := run_mapEntry_mpI ht hk o k hu
  unfold Oper.wp
  simp [execOp, hop, hx, hy, hr]
  exact hK _ _ (h w' born h1 h2 h3)
theorem wpList_entryStore_mpI {ops : Array Oper} {rest : List Oper} {op : Oper} {A : Act} {Q : Exit → Act → World → Prop} (hgd : op.guard = none) (x y v : Operand) (hop : op.op = Op.entryStore t x y v)
    (o : Own w (mpI f b m :: l)) (k : Int) (u : α) {born : Nat} (hB : BornAt m w b k born)
    (hx : A.eval x = .map (some b)) (hy : A.eval y = .int .i64 (born : Int)) (hv : A.eval v = f u)
    (h : ∀ w', Own w' (mpI f b (mput m k u) :: l) → Calm w w' → wpList P ops Q rest (A.put op.dst undef) w') : wpList P ops Q (op :: rest) A w := by
  refine wpList_plain hgd fun K hK => ?_
  obtain ⟨w', hr, h2, h3⟩ := run_entryStore_mpI (P := P) (t := t) o k u hB
  unfold Oper.wp
  simp [execOp, hop, hx, hy, hv, hr, Result.andThen]
  exact hK _ _ (h w' h2 h3)
end
end Go.Proofs.Ytalkmeclkjnjnaa
