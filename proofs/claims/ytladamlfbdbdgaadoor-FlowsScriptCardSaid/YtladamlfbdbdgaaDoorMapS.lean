/- Maps whose keys are strings, in the separation logic. -/
import Derived.Test.YtladamlfbdbdgaaDoorSlb
namespace Go.Proofs.YtladamlfbdbdgaaDoor
open Go.RowKit
open SP

theorem ba_beq (a b : ByteArray) : (a == b) = decide (a = b) := by
  cases a with | mk x => cases b with | mk y =>
  rw [Bool.eq_iff_iff, decide_eq_true_eq]
  show ((x == y) = true) ↔ _
  rw [beq_iff_eq]
  constructor
  · intro h; rw [h]
  · intro h; injection h
theorem ba_self (a : ByteArray) : (a == a) = true := by rw [ba_beq, decide_eq_true rfl]

/-! ### Maps whose keys are strings -/
section
variable {α : Type}
def sget : List (ByteArray × α) → ByteArray → Option α
  | [], _ => none
  | (k', v) :: m, k => if k = k' then some v else sget m k
def sput : List (ByteArray × α) → ByteArray → α → List (ByteArray × α)
  | [], k, v => [(k, v)]
  | (k', v') :: m, k, v => if k = k' then (k, v) :: m else (k', v') :: sput m k v
def sidx : List (ByteArray × α) → ByteArray → Option Nat
  | [], _ => none
  | (k', _) :: m, k => if k = k' then some 0 else (sidx m k).map (· + 1)

/-- Block b is a map that holds these pairs, in the order of their insertion. -/
def SP.mpS (f : α → Value) (b : Nat) (m : List (ByteArray × α)) : SP := ex fun (p : Array MapEntry × Nat) =>
  st [pu (p.1.toList.map (fun e => (e.key, e.val)) = m.map (fun x => (Value.string x.1, f x.2)) ∧ p.1.toList.Pairwise (fun x y => x.born < y.born) ∧ ∀ e ∈ p.1.toList, e.born < p.2), blk b (.map p.1 p.2)]

variable {w : World} {l : List SP} {P : Program} {t kt et : TypeId} {f : α → Value} {b : Nat} {m : List (ByteArray × α)}

theorem Own.mpS : Own w (SP.mpS f b m :: l) ↔ ∃ es clock, es.toList.map (fun e : MapEntry => (e.key, e.val)) = m.map (fun x => (Value.string x.1, f x.2)) ∧
    es.toList.Pairwise (fun x y => x.born < y.born) ∧ (∀ e ∈ es.toList, e.born < clock) ∧ Own w (SP.blk b (.map es clock) :: l) := by
  constructor
  · intro o
    obtain ⟨⟨es, clock⟩, o⟩ := Own.ex.1 o
    obtain ⟨⟨h1, h2, h3⟩, o⟩ := Own.pu.1 (Own.st.1 o)
    exact ⟨es, clock, h1, h2, h3, o⟩
  · rintro ⟨es, clock, h1, h2, h3, o⟩
    exact Own.ex.2 ⟨(es, clock), Own.st.2 (Own.pu.2 ⟨⟨h1, h2, h3⟩, o⟩)⟩

theorem findNow_str (k : ByteArray) : ∀ (es : List MapEntry) (m : List (ByteArray × α)) (n : Nat), es.map (fun e => (e.key, e.val)) = m.map (fun x => (Value.string x.1, f x.2)) →
    Instr.findNow .string (.string k) es n = some (match sidx m k, sget m k with | some i, some v => some (n + i, f v) | _, _ => none)
  | [], [], n, _ => rfl
  | [], _ :: _, _, h => by simp at h
  | _ :: _, [], _, h => by simp at h
  | e :: es, (k', v) :: m, n, h => by
    simp only [List.map_cons, List.cons.injEq, Prod.mk.injEq] at h
    obtain ⟨⟨h1, h2⟩, h3⟩ := h
    unfold Instr.findNow
    rw [h1]
    by_cases hk : k = k'
    · subst hk
      simp [Instr.sameNow, sidx, sget, h2, ba_self]
    · have hb : (k == k') = false := by rw [ba_beq]; exact decide_eq_false hk
      have ih := findNow_str k es m (n + 1) h3
      simp only [Instr.sameNow, if_true, hb, sidx, sget, if_neg hk]
      rw [ih]
      cases sidx m k <;> cases sget m k <;> simp [Nat.add_assoc, Nat.add_comm 1]

theorem sidx_sget (m : List (ByteArray × α)) (k : ByteArray) : (sidx m k).isSome = (sget m k).isSome := by
  induction m with
  | nil => rfl
  | cons x m ih =>
    obtain ⟨k', v⟩ := x
    unfold sidx sget
    split
    · rfl
    · simpa using ih

theorem run_checkKey_str {P : Program} {kt : TypeId} (hk : P.underlying kt = some .string) (em : Bool) (n : Nat) (k : ByteArray) (w : World) : (Instr.checkKey em (n + 1) kt (.string k)).run P w = .ok () w := by
  simp [Instr.checkKey, run_underlying hk]

theorem run_findKey_str {P : Program} {kt : TypeId} (hk : P.underlying kt = some .string) {es : List MapEntry} (h : es.map (fun e => (e.key, e.val)) = m.map (fun x => (Value.string x.1, f x.2))) (k : ByteArray) (w : World) :
    (Instr.findKey kt (.string k) es).run P w = .ok (match sidx m k, sget m k with | some i, some v => some (i, f v) | _, _ => none) w := by
  have := findNow_str (f := f) k es m 0 h
  simp only [Nat.zero_add] at this
  simp [Instr.findKey, run_underlying hk, this]

theorem run_lookup_mpS (ht : P.underlying t = some (.map kt et)) (hk : P.underlying kt = some .string) {z : Value} (hz : ∀ w, (zeroValue et).run P w = .ok z w)
    (o : Own w (SP.mpS f b m :: l)) (k : ByteArray) (ok : Bool) :
    (Instr.lookup t (.map (some b)) (.string k) ok).run P w = .ok (if ok then .tuple #[((sget m k).map f).getD z, .bool (sget m k).isSome] else ((sget m k).map f).getD z) w := by
  obtain ⟨es, clock, h1, _, _, o⟩ := Own.mpS.1 o
  have hb := o.blk
  have hm := sidx_sget m k
  have hf := run_findKey_str (P := P) hk h1 k w
  cases hmi : sidx m k <;> cases hmg : sget m k <;> simp [hmi, hmg] at hm hf <;>
    cases ok <;> simp [Instr.lookup, run_underlying ht, getObj, Sem.run, hb, run_checkKey_str hk, hf, hz w]

theorem sput_lists (k : ByteArray) (v : α) : ∀ (es : List MapEntry) (m : List (ByteArray × α)) (i : Nat), es.map (fun e => (e.key, e.val)) = m.map (fun x => (Value.string x.1, f x.2)) → sidx m k = some i →
    (es.modify i fun e => { e with key := .string k, val := f v }).map (fun e => (e.key, e.val)) = (sput m k v).map (fun x => (Value.string x.1, f x.2)) ∧ (∃ e, es[i]? = some e ∧ e.key = .string k)
  | [], [], i, _, hi => by simp [sidx] at hi
  | [], _ :: _, _, h, _ => by simp at h
  | _ :: _, [], _, h, _ => by simp at h
  | e :: es, (k', v') :: m, i, h, hi => by
    simp only [List.map_cons, List.cons.injEq, Prod.mk.injEq] at h
    obtain ⟨⟨h1, h2⟩, h3⟩ := h
    unfold sidx at hi
    by_cases hk : k = k'
    · subst hk
      simp at hi
      subst hi
      simp [sput, h3, h1]
    · simp only [if_neg hk, Option.map_eq_some_iff] at hi
      obtain ⟨j, hj, rfl⟩ := hi
      obtain ⟨h4, h5⟩ := sput_lists k v es m j h3 hj
      simp only [sput, if_neg hk]
      refine ⟨?_, by simpa using h5⟩
      simp [h1, h2, h4]

theorem sput_new (k : ByteArray) (v : α) : ∀ (m : List (ByteArray × α)), sidx m k = none → sput m k v = m ++ [(k, v)]
  | [], _ => rfl
  | (k', v') :: m, h => by
    unfold sidx at h
    by_cases hk : k = k'
    · simp [hk] at h
    · simp only [if_neg hk, Option.map_eq_none_iff] at h
      simp [sput, if_neg hk, sput_new k v m h]

theorem run_mapUpdate_mpS (ht : P.underlying t = some (.map kt et)) (hk : P.underlying kt = some .string) (o : Own w (SP.mpS f b m :: l)) (k : ByteArray) (v : α) :
    ∃ w', (Instr.mapUpdate t (.map (some b)) (.string k) (f v)).run P w = .ok () w' ∧ Own w' (SP.mpS f b (sput m k v) :: l) ∧ Calm w w' := by
  obtain ⟨es, clock, h1, h2, h3, o⟩ := Own.mpS.1 o
  have hb := o.blk
  have hm := sidx_sget m k
  have hf := run_findKey_str (P := P) hk h1 k w
  cases hmi : sidx m k with
  | none =>
    have hmg : sget m k = none := by rw [hmi] at hm; simpa using hm.symm
    simp [hmi] at hf
    refine ⟨_, ?_, Own.mpS.2 ⟨es.push { key := .string k, val := f v, born := clock }, clock + 1, ?_, ?_, ?_, o.setMap _⟩, ⟨rfl, rfl, rfl⟩⟩
    · simp [Instr.mapUpdate, run_underlying ht, getObj, setObj, Sem.run, hb, run_checkKey_str hk, hf]
    · rw [sput_new k v m hmi]; simp [h1]
    · simp only [Array.toList_push, List.pairwise_append]
      exact ⟨h2, by simp, fun a ha c hc => by simp at hc; subst hc; exact h3 a ha⟩
    · intro e he
      simp at he
      rcases he with he | rfl
      · have := h3 e (by simpa using he); omega
      · simp
  | some i =>
    obtain ⟨x, hmg⟩ : ∃ x, sget m k = some x := by rw [hmi] at hm; exact Option.isSome_iff_exists.1 (by simpa using hm.symm)
    obtain ⟨h4, e0, h5, h6⟩ := sput_lists (f := f) k v es.toList m i h1 hmi
    have h5' : es[i]? = some e0 := by simpa using h5
    simp [hmi, hmg] at hf
    refine ⟨_, ?_, Own.mpS.2 ⟨es.modify i fun e => { e with key := .string k, val := f v }, clock, ?_, ?_, ?_, o.setMap _⟩, ⟨rfl, rfl, rfl⟩⟩
    · simp [Instr.mapUpdate, run_underlying ht, getObj, setObj, Sem.run, hb, run_checkKey_str hk, hf, h5', h6, Instr.keyThatStays, Instr.sameBits, ba_self]
    · rw [Array.toList_modify]; exact h4
    · rw [Array.toList_modify]; exact pairwise_modify (fun e => { e with key := .string k, val := f v }) (fun _ => rfl) i h2
    · rw [Array.toList_modify]; exact mem_modify_born (fun e => { e with key := .string k, val := f v }) (fun _ => rfl) i h3

theorem Own.mpS_made (o : Own w l) : Own (w.alloc (.map #[] 0)) (SP.mpS f w.heap.size ([] : List (ByteArray × α)) :: l) :=
  Own.mpS.2 ⟨#[], 0, rfl, by simp, by simp, o.alloc _⟩

theorem wpList_mapUpdate_mpS {ops : Array Oper} {rest : List Oper} {op : Oper} {A : Act} {Q : Exit → Act → World → Prop} (hgd : op.guard = none) (x y v : Operand) (hop : op.op = Op.mapUpdate t x y v)
    (ht : P.underlying t = some (.map kt et)) (hk : P.underlying kt = some .string) (o : Own w (SP.mpS f b m :: l)) (k : ByteArray) (u : α)
    (hx : A.eval x = .map (some b)) (hy : A.eval y = .string k) (hv : A.eval v = f u)
    (h : ∀ w', Own w' (SP.mpS f b (sput m k u) :: l) → Calm w w' → wpList P ops Q rest (A.put op.dst undef) w') : wpList P ops Q (op :: rest) A w := by
  refine wpList_plain hgd fun K hK => ?_
  obtain ⟨w', hr, h2, h3⟩ := run_mapUpdate_mpS ht hk o k u
  unfold Oper.wp
  simp [execOp, hop, hx, hy, hv, hr, Result.andThen]
  exact hK _ _ (h w' h2 h3)

end


end Go.Proofs.YtladamlfbdbdgaaDoor
