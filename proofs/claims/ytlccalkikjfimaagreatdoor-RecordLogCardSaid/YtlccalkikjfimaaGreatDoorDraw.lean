/- Regions whose order Go leaves open: one invariant that every operation keeps serves for all orders. -/
import Derived.Test.YtlccalkikjfimaaGreatDoorApp
namespace Go.Proofs.YtlccalkikjfimaaGreatDoor
open Go.RowKit
section
variable {P : Program} {ops : Array Oper} {Q : Exit → Act → World → Prop}

theorem count_set_lt : ∀ (l : List Bool) (i : Nat), l[i]? = some false → (l.set i true).count false < l.count false
  | [], i, h => by simp at h
  | b :: l, 0, h => by
    simp at h; subst h
    simp
  | b :: l, i + 1, h => by
    have := count_set_lt l i (by simpa using h)
    simp only [List.set_cons_succ, List.count_cons]
    omega

theorem count_zero_all : ∀ (l : List Bool), l.count false = 0 → ∀ b ∈ l, b = true
  | [], _, b, h => by simp at h
  | c :: l, h, b, hb => by
    rw [List.count_cons] at h
    have h1 : l.count false = 0 := by omega
    rcases List.mem_cons.1 hb with rfl | hb
    · cases b
      · simp at h
      · rfl
    · exact count_zero_all l h1 b hb

/-- Edges point back. -/
def edgesBack (ops : Array Oper) : Bool := ops.toList.zipIdx.all fun (o, i) => o.after.all fun e => !Region.binds .any e || decide (e.on < i)
theorem edgesBack_spec (h : edgesBack ops = true) {i : Nat} {o : Oper} (ho : ops[i]? = some o) {e : Edge} (he : e ∈ o.after) (hb : Region.binds .any e = true) : e.on < i := by
  unfold edgesBack at h
  rw [List.all_eq_true] at h
  have hm : (o, i) ∈ ops.toList.zipIdx := by
    rw [List.mk_mem_zipIdx_iff_getElem?]
    simpa using ho
  have := h _ hm
  simp only [Array.all_eq_true'] at this
  have := this e he
  rw [hb] at this
  simpa using this

theorem ready_nil_all (hk : edgesBack ops = true) {L : Array Bool} (hs : L.size = ops.size) (h : Region.ready .any ops L = []) : ∀ i, i < ops.size → L.getD i true = true := by
  intro i
  induction i using Nat.strongRecOn with
  | _ i ih =>
    intro hi
    cases hc : L.getD i true with
    | true => rfl
    | false =>
      exfalso
      have hm : i ∈ Region.ready .any ops L := by
        rw [mem_ready]
        refine ⟨hc, ops[i], Array.getElem?_eq_getElem hi, fun e he hb => ?_⟩
        have hlt := edgesBack_spec hk (Array.getElem?_eq_getElem hi) he hb
        have := ih e.on hlt (by omega)
        have h1 : e.on < L.size := by omega
        simp only [Array.getD, h1, dif_pos] at this ⊢
        exact this
      rw [h] at hm
      cases hm

theorem wpAny_inv {I : Array Bool → Act → World → Prop} (hk : edgesBack ops = true)
    (step : ∀ (L : Array Bool) (i : Nat) (o : Oper) (a : Act) (w : World), L.size = ops.size → ops[i]? = some o → L.getD i true = false → (∀ e ∈ o.after, Region.binds .any e = true → L.getD e.on false = true) → I L a w → wpOp P ops Q i (I (L.setIfInBounds i true)) a w)
    (fin : ∀ (L : Array Bool) (a : Act) (w : World), L.size = ops.size → (∀ i, i < ops.size → L.getD i true = true) → I L a w → Q .normal a w) :
    ∀ (fuel : Nat) (L : Array Bool) (a : Act) (w : World), L.size = ops.size → L.toList.count false ≤ fuel → I L a w → wpAny P .any ops Q fuel L a w
  | 0, L, a, w, hs, hc, hI => by
    have hall : ∀ i, i < ops.size → L.getD i true = true := by
      intro i hi
      have h1 : i < L.size := by omega
      have h2 := count_zero_all L.toList (by omega) L[i] (by simp)
      simp only [Array.getD, h1, dif_pos]
      exact h2
    refine ⟨?_, fin L a w hs hall hI⟩
    cases hr : Region.ready .any ops L with
    | nil => rfl
    | cons j l =>
      exfalso
      have hm : j ∈ Region.ready .any ops L := by rw [hr]; exact List.mem_cons_self
      obtain ⟨h1, o, ho, _⟩ := mem_ready.1 hm
      rw [hall j (Array.getElem?_eq_some_iff.1 ho).1] at h1
      cases h1
  | fuel + 1, L, a, w, hs, hc, hI => by
    refine ⟨fun h => fin L a w hs (ready_nil_all hk hs h) hI, fun i hi => ?_⟩
    obtain ⟨h1, o, ho, h2⟩ := mem_ready.1 hi
    refine wpOp_mono (fun a' w' hI' => ?_) (step L i o a w hs ho h1 h2 hI)
    refine wpAny_inv hk step fin fuel _ a' w' (by simpa using hs) ?_ hI'
    have hlt := (Array.getElem?_eq_some_iff.1 ho).1
    have h3 : L.toList[i]? = some false := by
      have h4 : i < L.size := by omega
      simp only [Array.getD, h4, dif_pos] at h1
      rw [Array.getElem?_toList, Array.getElem?_eq_getElem h4]
      exact congrArg some h1
    have := count_set_lt _ _ h3
    rw [Array.toList_setIfInBounds]
    omega

/-- What an activation holds when the operations that L marks have been carried out, with the values v. -/
structure Agree (A0 : Act) (ops : Array Oper) (L : Nat → Bool) (v : Nat → Value) (a : Act) : Prop where
  defers : a.defers = A0.defers
  size : a.tmps.size = A0.tmps.size
  off : ∀ t : Nat, (∀ k o, ops[k]? = some o → o.dst = some t → L k = false) → a.tmps.getD t undef = A0.tmps.getD t undef
  on : ∀ (k : Nat) (o : Oper) (t : Nat), ops[k]? = some o → o.dst = some t → L k = true → a.tmps.getD t undef = v k

def dIns (L : Nat → Bool) (i : Nat) : Nat → Bool := fun j => if j = i then true else L j
def dUpd (v : Nat → Value) (i : Nat) (x : Value) : Nat → Value := fun j => if j = i then x else v j

/-- Each operation has a slot of its own. -/
def slotsOk (ops : Array Oper) (n : Nat) : Bool :=
  (List.range ops.size).all fun i => match (ops[i]?).bind (·.dst) with
    | none => true
    | some t => decide (t < n) && (List.range ops.size).all fun j => decide (i = j) || (ops[j]?).bind (·.dst) != some t
theorem slotsOk_lt {n : Nat} (h : slotsOk ops n = true) {i : Nat} {o : Oper} {t : Nat} (ho : ops[i]? = some o) (ht : o.dst = some t) : t < n := by
  unfold slotsOk at h
  rw [List.all_eq_true] at h
  have := h i (List.mem_range.2 (Array.getElem?_eq_some_iff.1 ho).1)
  rw [ho] at this
  simp only [Option.bind_some, ht, Bool.and_eq_true, decide_eq_true_eq] at this
  exact this.1
theorem slotsOk_ne {n : Nat} (h : slotsOk ops n = true) {i j : Nat} {o o' : Oper} {t : Nat} (ho : ops[i]? = some o) (ht : o.dst = some t) (ho' : ops[j]? = some o') (ht' : o'.dst = some t) : i = j := by
  unfold slotsOk at h
  rw [List.all_eq_true] at h
  have := h i (List.mem_range.2 (Array.getElem?_eq_some_iff.1 ho).1)
  rw [ho] at this
  simp only [Option.bind_some, ht, Bool.and_eq_true, decide_eq_true_eq, List.all_eq_true] at this
  have := this.2 j (List.mem_range.2 (Array.getElem?_eq_some_iff.1 ho').1)
  rw [ho'] at this
  simpa [ht'] using this

theorem Agree.put {A0 a : Act} {L : Nat → Bool} {v : Nat → Value} {i : Nat} {o : Oper} (hs : slotsOk ops A0.tmps.size = true) (h : Agree A0 ops L v a) (ho : ops[i]? = some o) (x : Value) :
    Agree A0 ops (dIns L i) (dUpd v i x) (a.put o.dst x) := by
  cases hd : o.dst with
  | none =>
    refine ⟨h.defers, h.size, fun t ht => h.off t fun k o' hk hk' => ?_, fun k o' t hk hk' hl => ?_⟩
    · have := ht k o' hk hk'
      unfold dIns at this
      split at this
      · cases this
      · exact this
    · unfold dIns at hl
      split at hl
      · rename_i e; subst e; rw [ho] at hk; cases hk; rw [hd] at hk'; cases hk'
      · rename_i e
        simp only [dUpd, if_neg e]
        exact h.on k o' t hk hk' hl
  | some d =>
    have hdl : d < a.tmps.size := by rw [h.size]; exact slotsOk_lt hs ho hd
    have same : ∀ t, t ≠ d → (a.put (some d) x).tmps.getD t undef = a.tmps.getD t undef := by
      intro t ht
      simp only [Act.put, Array.getD_eq_getD_getElem?, Array.getElem?_setIfInBounds]
      rw [if_neg (Ne.symm ht)]
    refine ⟨h.defers, by simp [Act.put, h.size], fun t ht => ?_, fun k o' t hk hk' hl => ?_⟩
    · have hne : t ≠ d := by
        rintro rfl
        have := ht i o ho hd
        simp [dIns] at this
      rw [same t hne]
      refine h.off t fun k o' hk hk' => ?_
      have := ht k o' hk hk'
      unfold dIns at this
      split at this
      · cases this
      · exact this
    · by_cases hki : k = i
      · subst hki
        rw [ho] at hk; cases hk
        rw [hd] at hk'; cases hk'
        simp [Act.put, dUpd, Array.getD_eq_getD_getElem?, hdl]
      · have hne : t ≠ d := by
          rintro rfl
          exact hki (slotsOk_ne hs hk hk' ho hd)
        rw [same t hne]
        simp only [dIns, if_neg hki] at hl
        simp only [dUpd, if_neg hki]
        exact h.on k o' t hk hk' hl

theorem Agree.start (A0 : Act) (ops : Array Oper) (v : Nat → Value) : Agree A0 ops (fun _ => false) v A0 :=
  ⟨rfl, rfl, fun _ _ => rfl, fun _ _ _ _ _ h => by cases h⟩

theorem Agree.uniq {A0 a b : Act} {L : Nat → Bool} {v : Nat → Value} (h : Agree A0 ops L v a) (k : Agree A0 ops L v b) : a = b := by
  have e1 : a.defers = b.defers := h.defers.trans k.defers.symm
  have es : a.tmps.size = b.tmps.size := h.size.trans k.size.symm
  have e2 : a.tmps = b.tmps := by
    apply Array.ext es
    intro t h1 h2
    have hh : a.tmps.getD t undef = b.tmps.getD t undef := by
      by_cases hx : ∃ k o, ops[k]? = some o ∧ o.dst = some t ∧ L k = true
      · obtain ⟨k', o, ho, hd, hl⟩ := hx
        rw [h.on k' o t ho hd hl, k.on k' o t ho hd hl]
      · have hno : ∀ k o, ops[k]? = some o → o.dst = some t → L k = false := by
          intro k' o ho hd
          cases hl : L k' with
          | false => rfl
          | true => exact absurd ⟨k', o, ho, hd, hl⟩ hx
        rw [h.off t hno, k.off t hno]
    simpa [Array.getD, h1, h2] using hh
  cases a; cases b
  simp only at e1 e2
  rw [e1, e2]

/-- All operations' values, put in the order of the text. -/
def putAll : List Oper → Nat → (Nat → Value) → Act → Act
  | [], _, _, a => a
  | o :: l, k, v, a => putAll l (k + 1) v (a.put o.dst (v k))

theorem Agree.congr {A0 a : Act} {L L' : Nat → Bool} {v v' : Nat → Value} (h : Agree A0 ops L v a) (hL : ∀ k, k < ops.size → L k = L' k) (hv : ∀ k, k < ops.size → L k = true → v k = v' k) : Agree A0 ops L' v' a :=
  ⟨h.defers, h.size, fun t ht => h.off t fun k o ho hd => by rw [hL k (Array.getElem?_eq_some_iff.1 ho).1]; exact ht k o ho hd,
   fun k o t ho hd hl => by
    have hk := (Array.getElem?_eq_some_iff.1 ho).1
    rw [← hL k hk] at hl
    rw [h.on k o t ho hd hl, hv k hk hl]⟩

theorem Agree.all {A0 : Act} (hs : slotsOk ops A0.tmps.size = true) (v : Nat → Value) : ∀ (l : List Oper) (k : Nat) (a : Act), ops.toList.drop k = l → Agree A0 ops (fun j => decide (j < k)) v a → Agree A0 ops (fun _ => true) v (putAll l k v a)
  | [], k, a, hl, h => by
    have hk : ops.size ≤ k := by
      have := congrArg List.length hl
      simp at this
      omega
    refine h.congr (fun j hj => by simp; omega) (fun _ _ _ => rfl)
  | o :: l, k, a, hl, h => by
    have ho : ops[k]? = some o := by
      have : (ops.toList.drop k)[0]? = some o := by rw [hl]; rfl
      rw [List.getElem?_drop] at this
      simpa using this
    have hl' : ops.toList.drop (k + 1) = l := by
      rw [← List.drop_drop, hl]; rfl
    refine Agree.all hs v l (k + 1) _ hl' ?_
    refine (h.put hs ho (v k)).congr (fun j hj => ?_) (fun j hj _ => ?_)
    · unfold dIns; split
      · rename_i e; subst e; simp
      · rename_i e
        have : (j < k) ↔ (j < k + 1) := by omega
        simp [this]
    · unfold dUpd; split
      · rename_i e; rw [e]
      · rfl

/-- Said of every operation. -/
def AllOps : List Oper → Nat → (Nat → Oper → Prop) → Prop
  | [], _, _ => True
  | o :: l, k, p => p k o ∧ AllOps l (k + 1) p
theorem AllOps.get {p : Nat → Oper → Prop} : ∀ {l : List Oper} {k : Nat}, AllOps l k p → ∀ (i : Nat) (o : Oper), l[i]? = some o → p (k + i) o
  | [], _, _, i, o, h => by simp at h
  | x :: l, k, h, 0, o, ho => by simp at ho; subst ho; exact h.1
  | x :: l, k, h, i + 1, o, ho => by
    have := AllOps.get h.2 i o (by simpa using ho)
    rwa [show k + 1 + i = k + (i + 1) by omega] at this

/-- The step of one operation. -/
def DrawStep (P : Program) (ops : Array Oper) (Q : Exit → Act → World → Prop) (A0 : Act) (Inv : (Nat → Bool) → (Nat → Value) → World → Prop) (i : Nat) (o : Oper) : Prop :=
  ∀ (L : Nat → Bool) (v : Nat → Value) (a : Act) (w : World), L i = false → (∀ e ∈ o.after, Region.binds .any e = true → L e.on = true) → Agree A0 ops L v a → Inv L v w →
    ∀ K' : Act → World → Prop, Shut (∀ x w', Inv (dIns L i) (dUpd v i x) w' → K' (a.put o.dst x) w') → if Region.wanted o (yielded ops a.tmps) = true then Oper.wp P o a w K' Q else K' (a.put o.dst undef) w
theorem Agree.get {A0 a : Act} {L : Nat → Bool} {v : Nat → Value} (h : Agree A0 ops L v a) (k : Nat) {t : Nat} (hl : L k = true) (ho : (ops[k]?).bind (·.dst) = some t := by rfl) : a.tmps[t]?.getD undef = v k := by
  obtain ⟨o, ho, hd⟩ := Option.bind_eq_some_iff.1 ho
  rw [← Array.getD_eq_getD_getElem?]
  exact h.on k o t ho hd hl
theorem Agree.base {A0 a : Act} {L : Nat → Bool} {v : Nat → Value} (h : Agree A0 ops L v a) (t : Nat) (hb : (ops.toList.all fun o => o.dst != some t) = true) : a.tmps[t]?.getD undef = A0.tmps[t]?.getD undef := by
  rw [← Array.getD_eq_getD_getElem?, ← Array.getD_eq_getD_getElem?]
  refine h.off t fun k o ho hd => ?_
  rw [List.all_eq_true] at hb
  have := hb o (by have := Array.mem_of_getElem? ho; simpa using this)
  rw [hd] at this
  simp at this
/-- An operation number i of a DrawStep, with the way on laid open. -/
theorem DrawStep.mk {A0 : Act} {Inv : (Nat → Bool) → (Nat → Value) → World → Prop} {i : Nat} {o : Oper} (hg : o.guard = none)
    (h : ∀ (L : Nat → Bool) (v : Nat → Value) (a : Act) (w : World), L i = false → (∀ e ∈ o.after, Region.binds .any e = true → L e.on = true) → Agree A0 ops L v a → Inv L v w →
      ∀ K' : Act → World → Prop, Shut (∀ x w', Inv (dIns L i) (dUpd v i x) w' → K' (a.put o.dst x) w') → Oper.wp P o a w K' Q) : DrawStep P ops Q A0 Inv i o := by
  intro L v a w h1 h2 h3 h4 K' hK
  rw [if_pos (by unfold Region.wanted; rw [hg])]
  exact h L v a w h1 h2 h3 h4 K' hK

theorem wp_region_draws {id : Nat} {A0 : Act} {w : World} (Inv : (Nat → Bool) → (Nat → Value) → World → Prop) (hm : P.follows .mixedOrders = true)
    (hk : edgesBack ops = true) (hs : slotsOk ops A0.tmps.size = true)
    (h0 : Inv (fun _ => false) (fun _ => undef) w.drew)
    (step : AllOps ops.toList 0 (DrawStep P ops Q A0 Inv))
    (fin : ∀ (L : Nat → Bool) (v : Nat → Value) (w : World), (∀ i, i < ops.size → L i = true) → Inv L v w → Q .normal (putAll ops.toList 0 v A0) w) : (Code.region id ops true).wp P Q A0 w := by
  refine wp_region_any hm ?_
  refine wpAny_inv (I := fun L a w => ∃ v, Agree A0 ops (fun j => L.getD j false) v a ∧ Inv (fun j => L.getD j false) v w) hk ?_ ?_ _ _ _ _ (by simp) ?_ ?_
  · rintro L i o a w hLs ho hL hdep ⟨v, hA, hI⟩
    have hi := (Array.getElem?_eq_some_iff.1 ho).1
    have hiL : i < L.size := by omega
    have hLi : L.getD i false = false := by
      simp only [Array.getD, hiL, dif_pos] at hL ⊢; exact hL
    have hst := step.get i o (by simpa using ho)
    rw [Nat.zero_add] at hst
    have hst := hst _ v a w hLi hdep hA hI
    have hins : (fun j => (L.setIfInBounds i true).getD j false) = dIns (fun j => L.getD j false) i := by
      funext j
      unfold dIns
      by_cases hj : j = i
      · subst hj; simp [Array.getD_eq_getD_getElem?, hiL]
      · simp [Array.getD_eq_getD_getElem?, Ne.symm hj, hj]
    refine wpOp_step ho fun K' hK => hst K' ?_
    intro x w' hI'
    exact hK _ _ ⟨_, by rw [hins]; exact hA.put hs ho x, by rw [hins]; exact hI'⟩
  · rintro L a w hLs hall ⟨v, hA, hI⟩
    have hall' : ∀ i, i < ops.size → L.getD i false = true := by
      intro i hi
      have h1 : i < L.size := by omega
      have := hall i hi
      simp only [Array.getD, h1, dif_pos] at this ⊢; exact this
    have e : a = putAll ops.toList 0 v A0 := by
      refine Agree.uniq (L := fun _ => true) (v := v) (hA.congr (fun k hk => hall' k hk) (fun _ _ _ => rfl)) ?_
      exact Agree.all hs v ops.toList 0 A0 (by simp) ((Agree.start A0 ops v).congr (fun k hk => by simp) (fun _ _ h => by cases h))
    rw [e]
    exact fin _ v w hall' hI
  · simp
  · have e : (fun j => (Array.replicate ops.size false).getD j false) = fun _ => false := by
      funext j
      simp only [Array.getD_eq_getD_getElem?, Array.getElem?_replicate]
      split <;> rfl
    rw [e]
    exact ⟨_, Agree.start A0 ops _, h0⟩
end
section
open SP
variable {W w w' : World} {R : List SP}
/-- A table that a region lays and then indexes: the part of its array. -/
def Tb (l : Bool) (v : Value) (T : TypeId) (xs : List Value) : SP :=
  if l = true then ex fun (g : Nat) => st [pu (v = .slice (some ⟨g, 0, none⟩) xs.length xs.length), cel g T xs] else pu True
theorem Tb.no {v : Value} {T : TypeId} {xs : List Value} (o : Own w R) : Own w (Tb false v T xs :: R) := by
  unfold Tb
  rw [if_neg (by decide)]
  exact Own.pu.2 ⟨trivial, o⟩
theorem Tb.new {v : Value} {T : TypeId} {xs : List Value} (_ : Own w (Tb false v T xs :: R)) (g : Nat) (o' : Own w' (cel g T xs :: Tb false v T xs :: R)) : Own w' (Tb true (.slice (some ⟨g, 0, none⟩) xs.length xs.length) T xs :: R) := by
  unfold Tb at o' ⊢
  rw [if_neg (by decide)] at o'
  rw [if_pos rfl]
  exact Own.ex.2 ⟨g, Own.st.2 (Own.pu.2 ⟨rfl, o'.swap.drop⟩)⟩
theorem Tb.at {g n m : Nat} {T : TypeId} {xs : List Value} (o : Own w (Tb true (.slice (some ⟨g, 0, none⟩) n m) T xs :: R)) {j : Nat} (hj : j < xs.length) : w.cell? ⟨g, j, none⟩ = some xs[j] := by
  unfold Tb at o
  rw [if_pos rfl] at o
  obtain ⟨g', o⟩ := Own.ex.1 o
  obtain ⟨h, o⟩ := Own.pu.1 (Own.st.1 o)
  simp only [Value.slice.injEq, Option.some.injEq, Addr.mk.injEq] at h
  obtain ⟨⟨rfl, _⟩, _⟩ := h
  exact Own.cell o j (List.getElem?_eq_getElem hj)
theorem Tb.val {v : Value} {T : TypeId} {xs : List Value} (o : Own w (Tb true v T xs :: R)) : ∃ g : Nat, v = .slice (some ⟨g, 0, none⟩) xs.length xs.length := by
  unfold Tb at o
  rw [if_pos rfl] at o
  obtain ⟨g, o⟩ := Own.ex.1 o
  exact ⟨g, (Own.pu.1 (Own.st.1 o)).1⟩
theorem tblInt {k : IntKind} (l : List Int) {x : Value} (h : x ∈ l.map (Value.int k)) : ∃ y : Int, x = .int k y := by
  obtain ⟨y, _, rfl⟩ := List.mem_map.1 h
  exact ⟨y, rfl⟩
/-- What is known of the values of such a table's operations: move, call, address, load. -/
structure TD (L : Nat → Bool) (v : Nat → Value) (cb b m c a l : Nat) (xs : List Value) : Prop where
  move : L m = true → v m = .pointer (some ⟨cb, 0, none⟩)
  call : L c = true → ∃ j : Nat, j < xs.length ∧ v c = .int .i64 (j : Int)
  addr : L a = true → L b = true ∧ ∃ g j : Nat, j < xs.length ∧ v b = .slice (some ⟨g, 0, none⟩) xs.length xs.length ∧ v a = .pointer (some ⟨g, j, none⟩)
  load : L l = true → v l ∈ xs
theorem TD.no {v : Nat → Value} {cb b m c a l : Nat} {xs : List Value} : TD (fun _ => false) v cb b m c a l xs :=
  ⟨fun h => (Bool.false_ne_true h).elim, fun h => (Bool.false_ne_true h).elim, fun h => (Bool.false_ne_true h).elim, fun h => (Bool.false_ne_true h).elim⟩
theorem TD.other {L : Nat → Bool} {v : Nat → Value} {cb b m c a l : Nat} {xs : List Value} (h : TD L v cb b m c a l xs) {i : Nat} (x : Value) (hL : L i = false) (hn : i ≠ m ∧ i ≠ c ∧ i ≠ a ∧ i ≠ l) :
    TD (dIns L i) (dUpd v i x) cb b m c a l xs := by
  obtain ⟨h1, h2, h3, h4⟩ := hn
  refine ⟨fun hh => ?_, fun hh => ?_, fun hh => ?_, fun hh => ?_⟩
  · simp only [dIns, dUpd, if_neg (Ne.symm h1)] at hh ⊢; exact h.move hh
  · simp only [dIns, dUpd, if_neg (Ne.symm h2)] at hh ⊢; exact h.call hh
  · simp only [dIns, if_neg (Ne.symm h3)] at hh
    obtain ⟨k1, g, j, k2, k3, k4⟩ := h.addr hh
    have hb : b ≠ i := by rintro rfl; rw [hL] at k1; cases k1
    simp only [dIns, dUpd, if_neg (Ne.symm h3), if_neg hb]
    exact ⟨k1, g, j, k2, k3, k4⟩
  · simp only [dIns, dUpd, if_neg (Ne.symm h4)] at hh ⊢; exact h.load hh
theorem TD.doMove {L : Nat → Bool} {v : Nat → Value} {cb b m c a l : Nat} {xs : List Value} (h : TD L v cb b m c a l xs) (hL : L m = false) (hn : m ≠ c ∧ m ≠ a ∧ m ≠ l) :
    TD (dIns L m) (dUpd v m (.pointer (some ⟨cb, 0, Option.none⟩))) cb b m c a l xs := by
  obtain ⟨h2, h3, h4⟩ := hn
  refine ⟨fun _ => by simp [dUpd], fun hh => ?_, fun hh => ?_, fun hh => ?_⟩
  · simp only [dIns, dUpd, if_neg (Ne.symm h2)] at hh ⊢; exact h.call hh
  · simp only [dIns, if_neg (Ne.symm h3)] at hh
    obtain ⟨k1, g, j, k2, k3, k4⟩ := h.addr hh
    have hb : b ≠ m := by rintro rfl; rw [hL] at k1; cases k1
    simp only [dIns, dUpd, if_neg (Ne.symm h3), if_neg hb]
    exact ⟨k1, g, j, k2, k3, k4⟩
  · simp only [dIns, dUpd, if_neg (Ne.symm h4)] at hh ⊢; exact h.load hh
theorem TD.doCall {L : Nat → Bool} {v : Nat → Value} {cb b m c a l : Nat} {xs : List Value} (h : TD L v cb b m c a l xs) (hL : L c = false) (hn : c ≠ m ∧ c ≠ a ∧ c ≠ l) {j : Nat} (hj : j < xs.length) :
    TD (dIns L c) (dUpd v c (.int .i64 (j : Int))) cb b m c a l xs := by
  obtain ⟨h2, h3, h4⟩ := hn
  refine ⟨fun hh => ?_, fun hh => ⟨j, hj, by simp [dUpd]⟩, fun hh => ?_, fun hh => ?_⟩
  · simp only [dIns, dUpd, if_neg (Ne.symm h2)] at hh ⊢; exact h.move hh
  · simp only [dIns, if_neg (Ne.symm h3)] at hh
    obtain ⟨k1, g, j, k2, k3, k4⟩ := h.addr hh
    have hb : b ≠ c := by rintro rfl; rw [hL] at k1; cases k1
    simp only [dIns, dUpd, if_neg (Ne.symm h3), if_neg hb]
    exact ⟨k1, g, j, k2, k3, k4⟩
  · simp only [dIns, dUpd, if_neg (Ne.symm h4)] at hh ⊢; exact h.load hh
theorem TD.doAddr {L : Nat → Bool} {v : Nat → Value} {cb b m c a l : Nat} {xs : List Value} (h : TD L v cb b m c a l xs) (hL : L a = false) (hn : a ≠ m ∧ a ≠ c ∧ a ≠ l) (hb : L b = true) {g j : Nat} (hj : j < xs.length) (hv : v b = .slice (some ⟨g, 0, Option.none⟩) xs.length xs.length) :
    TD (dIns L a) (dUpd v a (.pointer (some ⟨g, j, Option.none⟩))) cb b m c a l xs := by
  obtain ⟨h2, h3, h4⟩ := hn
  have hba : b ≠ a := by rintro rfl; rw [hL] at hb; cases hb
  refine ⟨fun hh => ?_, fun hh => ?_, fun hh => ⟨?_, g, j, hj, ?_, ?_⟩, fun hh => ?_⟩
  · simp only [dIns, dUpd, if_neg (Ne.symm h2)] at hh ⊢; exact h.move hh
  · simp only [dIns, dUpd, if_neg (Ne.symm h3)] at hh ⊢; exact h.call hh
  · simp only [dIns, if_neg hba]; exact hb
  · simp only [dUpd, if_neg hba]; exact hv
  · simp [dUpd]
  · simp only [dIns, dUpd, if_neg (Ne.symm h4)] at hh ⊢; exact h.load hh
theorem TD.doLoad {L : Nat → Bool} {v : Nat → Value} {cb b m c a l : Nat} {xs : List Value} (h : TD L v cb b m c a l xs) (hL : L l = false) (hn : l ≠ m ∧ l ≠ c ∧ l ≠ a) {x : Value} (hx : x ∈ xs) :
    TD (dIns L l) (dUpd v l x) cb b m c a l xs := by
  obtain ⟨h2, h3, h4⟩ := hn
  refine ⟨fun hh => ?_, fun hh => ?_, fun hh => ?_, fun hh => by simpa [dUpd] using hx⟩
  · simp only [dIns, dUpd, if_neg (Ne.symm h2)] at hh ⊢; exact h.move hh
  · simp only [dIns, dUpd, if_neg (Ne.symm h3)] at hh ⊢; exact h.call hh
  · simp only [dIns, if_neg (Ne.symm h4)] at hh
    obtain ⟨k1, g, j, k2, k3, k4⟩ := h.addr hh
    have hb : b ≠ l := by rintro rfl; rw [hL] at k1; cases k1
    simp only [dIns, dUpd, if_neg (Ne.symm h4), if_neg hb]
    exact ⟨k1, g, j, k2, k3, k4⟩
def dOne (b : Bool) : Nat := if b = true then 1 else 0
theorem dOne_le (b : Bool) : dOne b ≤ 1 := by unfold dOne; split <;> omega
theorem dOne_no : dOne false = 0 := rfl
theorem dOne_yes : dOne true = 1 := rfl
end
end Go.Proofs.YtlccalkikjfimaaGreatDoor
