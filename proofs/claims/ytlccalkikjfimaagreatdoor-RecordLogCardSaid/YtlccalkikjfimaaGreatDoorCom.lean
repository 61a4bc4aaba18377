/- What the texts of all chapters share: cells of lists of structs, results of calls, lists of pairs as maps. -/
import Derived.Test.YtlccalkikjfimaaGreatDoorSlb
import Derived.Lib.Hide
namespace Go.Proofs.YtlccalkikjfimaaGreatDoor
open Go.RowKit
open SP

/-- The cells of a list of things that take sz cells each. -/
def flat {α : Type} (g : α → List Value) (xs : List α) : List Value := xs.flatMap g

theorem flat_length {α : Type} {g : α → List Value} {sz : Nat} (hg : ∀ x, (g x).length = sz) (xs : List α) : (flat g xs).length = xs.length * sz := by
  induction xs with
  | nil => simp [flat]
  | cons x xs ih => unfold flat at *; rw [List.flatMap_cons, List.length_append, ih, hg, List.length_cons, Nat.add_mul]; omega

theorem flat_get {α : Type} {g : α → List Value} {sz : Nat} (hg : ∀ x, (g x).length = sz) : ∀ (xs : List α) (i j : Nat) (x : α), xs[i]? = some x → j < sz → (flat g xs)[i * sz + j]? = (g x)[j]?
  | [], i, j, x, h, _ => by simp at h
  | y :: xs, 0, j, x, h, hj => by
    simp at h; subst h
    unfold flat
    rw [List.flatMap_cons, Nat.zero_mul, Nat.zero_add, List.getElem?_append_left (by rw [hg]; exact hj)]
  | y :: xs, i + 1, j, x, h, hj => by
    unfold flat
    rw [List.flatMap_cons, List.getElem?_append_right (by rw [hg, Nat.add_mul]; omega), hg]
    have := flat_get hg xs i j x (by simpa using h) hj
    unfold flat at this
    rw [← this]
    congr 1
    rw [Nat.add_mul]; omega

theorem flat_append {α : Type} (g : α → List Value) (xs ys : List α) : flat g (xs ++ ys) = flat g xs ++ flat g ys := by simp [flat]

/-- What a call gives back, and what the world owns behind it. -/
def Ret (v : Value) (l : List SP) (w : World) (e : Ending) (w' : World) : Prop := e = .returned v ∧ Own w' l ∧ Calm w w'
def IsRet (v : Value) (w : World) (e : Ending) (w' : World) : Prop := e = .returned v ∧ w = w'
theorem IsRet.still {P : Program} {f : FuncId} {args : Array Value} {w : World} {v : Value} (h : Calls P f args w (IsRet v w)) : Calls P f args w (fun e w'' => e = .returned v ∧ w'' = w) :=
  h.mono fun _ _ ⟨he, hw⟩ => ⟨he, hw.symm⟩

theorem Calm.dn {a b : World} (h : Calm a b) (n : Nat) : Calm a (b.drewN n) := ⟨h.os, h.tape, h.output⟩
theorem Calm.d1 {a b : World} (h : Calm a b) : Calm a b.drew := ⟨h.os, h.tape, h.output⟩
theorem Calm.u1 {a b : World} (h : Calm a.drew b) : Calm a b := ⟨h.os, h.tape, h.output⟩

theorem Calm.al {a b : World} {x : Obj} (h : Calm (a.alloc x) b) : Calm a b := ⟨h.os, h.tape, h.output⟩
theorem Calm.sc {a b : World} {x : Addr} {v : Value} (h : Calm (a.setCell x v) b) : Calm a b := ⟨h.os, h.tape, h.output⟩

/-- What is owned stays owned when a new block comes. -/
theorem Own.more {w : World} {R : List SP} (o : Own w R) (x : Obj) : Own (w.alloc x) R := (o.alloc x).drop

/-- A slice is cut before its last element, which becomes spare. -/
theorem Own.slc_cut {w : World} {e : TypeId} {size : Nat} {a : Option Addr} {n cap : Nat} {xs ys : List Value} {l : List SP} (o : Own w (SP.slc e size a (n + 1) cap (xs ++ ys) :: l)) (hx : xs.length = n * size) :
    Own w (SP.slc e size a n cap xs :: l) := by
  rcases Own.slc.1 o with ⟨_, h, _⟩ | ⟨b, sp, rfl, h1, h2, h3, h4, o1⟩
  · omega
  · refine Own.slc.2 (.inr ⟨b, ys ++ sp, rfl, by omega, h2, hx, ?_, by rw [← List.append_assoc]; exact o1⟩)
    rw [List.length_append, hx] at h3
    rw [List.length_append, h4]
    have e1 : cap - n = (cap - (n + 1)) + 1 := by omega
    rw [e1, Nat.add_mul (cap - (n + 1)), Nat.one_mul]
    rw [Nat.add_mul, Nat.one_mul] at h3
    omega

section
variable {α : Type}
theorem mget_mput (m : List (Int × α)) (k k' : Int) (v : α) : mget (mput m k v) k' = if k' = k then some v else mget m k' := by
  induction m with
  | nil => simp [mput, mget]
  | cons x m ih =>
    obtain ⟨k0, v0⟩ := x
    unfold mput
    by_cases h : k = k0
    · subst h
      rw [if_pos rfl]
      unfold mget
      split <;> simp_all
    · rw [if_neg h]
      unfold mget
      by_cases h' : k' = k0
      · subst h'
        rw [if_pos rfl, if_neg (Ne.symm h), if_pos rfl]
      · rw [if_neg h', if_neg h', ih]
/-- No key stands twice. -/
def Uniq (m : List (Int × α)) : Prop := (m.map (·.1)).Nodup
theorem mget_none {m : List (Int × α)} {k : Int} : mget m k = none ↔ k ∉ m.map (·.1) := by
  induction m with
  | nil => simp [mget]
  | cons x m ih =>
    obtain ⟨k0, v0⟩ := x
    unfold mget
    by_cases h : k = k0
    · simp [h]
    · rw [if_neg h, ih]; simp [h]
theorem mput_keys (m : List (Int × α)) (k : Int) (v : α) : (mput m k v).map (·.1) = if k ∈ m.map (·.1) then m.map (·.1) else m.map (·.1) ++ [k] := by
  induction m with
  | nil => simp [mput]
  | cons x m ih =>
    obtain ⟨k0, v0⟩ := x
    unfold mput
    by_cases h : k = k0
    · simp [h]
    · rw [if_neg h]
      simp only [List.map_cons, ih, List.mem_cons, h, false_or]
      split <;> simp
theorem Uniq.mput {m : List (Int × α)} (h : Uniq m) (k : Int) (v : α) : Uniq (mput m k v) := by
  unfold Uniq at *
  rw [mput_keys]
  split
  · exact h
  · rename_i hk
    rw [List.nodup_append]
    refine ⟨h, by simp, ?_⟩
    intro a ha b hb
    simp at hb
    subst hb
    exact fun e => hk (e ▸ ha)
theorem mdel_keys (m : List (Int × α)) (k : Int) : (mdel m k).map (·.1) = (m.map (·.1)).erase k := by
  induction m with
  | nil => simp [mdel]
  | cons x m ih =>
    obtain ⟨k0, v0⟩ := x
    unfold mdel
    by_cases h : k = k0
    · simp [h]
    · rw [if_neg h]
      simp only [List.map_cons, ih]
      rw [List.erase_cons_tail]
      simpa using Ne.symm h
theorem Uniq.mdel {m : List (Int × α)} (h : Uniq m) (k : Int) : Uniq (mdel m k) := by
  unfold Uniq at *
  rw [mdel_keys]
  exact h.erase k
theorem mget_mdel {m : List (Int × α)} (h : Uniq m) (k k' : Int) : mget (mdel m k) k' = if k' = k then none else mget m k' := by
  induction m with
  | nil => simp [Go.Proofs.YtlccalkikjfimaaGreatDoor.mdel, mget]
  | cons x m ih =>
    obtain ⟨k0, v0⟩ := x
    unfold Uniq at h
    rw [List.map_cons, List.nodup_cons] at h
    unfold Go.Proofs.YtlccalkikjfimaaGreatDoor.mdel
    by_cases hk : k = k0
    · subst hk
      rw [if_pos rfl]
      by_cases h' : k' = k
      · subst h'; rw [if_pos rfl]; exact mget_none.2 h.1
      · rw [if_neg h']; conv => rhs; unfold mget
        rw [if_neg h']
    · rw [if_neg hk]
      unfold mget
      by_cases h' : k' = k0
      · subst h'; rw [if_pos rfl, if_neg (Ne.symm hk), if_pos rfl]
      · rw [if_neg h', if_neg h', ih h.2]
end

theorem set_self {α : Type} {l : List α} {i : Nat} {x : α} (h : l[i]? = some x) : l.set i x = l := by
  apply List.ext_getElem?
  intro j
  rw [List.getElem?_set]
  split
  · rename_i hij; subst hij
    split
    · exact h.symm
    · rename_i hl; rw [List.getElem?_eq_none (by omega)] at h; cases h
  · rfl

theorem nodup_get {l : List Int} (h : l.Nodup) {i j : Nat} {x : Int} (hi : l[i]? = some x) (hj : l[j]? = some x) : i = j := by
  have h1 := (List.getElem?_eq_some_iff.1 hi)
  have h2 := (List.getElem?_eq_some_iff.1 hj)
  exact (List.getElem_inj h).1 (h1.2.trans h2.2.symm)

theorem nodup_iff_get {l : List Int} : l.Nodup ↔ ∀ i j, i < j → j < l.length → l[i]? ≠ l[j]? := by
  rw [List.nodup_iff_pairwise_ne, List.pairwise_iff_getElem]
  constructor
  · intro h i j hij hj
    rw [List.getElem?_eq_getElem (by omega), List.getElem?_eq_getElem hj]
    simpa using h i j (by omega) hj hij
  · intro h i j hi hj hij
    have := h i j hij hj
    rw [List.getElem?_eq_getElem (by omega), List.getElem?_eq_getElem hj] at this
    simpa using this

theorem mget_at {α : Type} {m : List (Int × α)} (hu : Uniq m) {i : Nat} {x : Int × α} (hx : m[i]? = some x) : mget m x.1 = some x.2 := by
  induction m generalizing i with
  | nil => simp at hx
  | cons y m ih =>
    obtain ⟨k0, v0⟩ := y
    unfold Uniq at hu
    rw [List.map_cons, List.nodup_cons] at hu
    cases i with
    | zero => simp at hx; subst hx; simp [mget]
    | succ i =>
      have hx' : m[i]? = some x := by simpa using hx
      have hne : x.1 ≠ k0 := fun e => hu.1 (e ▸ List.mem_map.2 ⟨x, List.mem_of_getElem? hx', rfl⟩)
      unfold mget
      rw [if_neg hne]
      exact ih hu.2 hx'
theorem mget_mem {α : Type} {m : List (Int × α)} (hu : Uniq m) {x : Int × α} (hx : x ∈ m) : mget m x.1 = some x.2 := by
  obtain ⟨i, hi⟩ := List.getElem?_of_mem hx
  exact mget_at hu hi
theorem mem_of_mget {α : Type} {m : List (Int × α)} {k : Int} {v : α} (h : mget m k = some v) : (k, v) ∈ m := by
  induction m with
  | nil => simp [mget] at h
  | cons y m ih =>
    obtain ⟨k0, v0⟩ := y
    unfold mget at h
    split at h
    · rename_i hk; subst hk; simp at h; subst h; simp
    · exact List.mem_cons_of_mem _ (ih h)

end Go.Proofs.YtlccalkikjfimaaGreatDoor
