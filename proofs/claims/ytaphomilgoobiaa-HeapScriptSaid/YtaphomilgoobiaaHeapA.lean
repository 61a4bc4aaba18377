/- The heap as a list of entries in any order: the contracts of its functions. -/
import Derived.Test.YtaphomilgoobiaaHeapOrdb
import Derived.Test.YtaphomilgoobiaaHeapSort
namespace Go.Proofs.Ytaphomilgoobiaa
open Go.RowKit
open SP

/-! ### Plain: what the functions do to the list -/
def idsE (L : List (Int × Int)) : List Int := L.map (·.1)
def pushE (cap id : Int) (L : List (Int × Int)) : Int := if id < 0 ∨ 4096 ≤ id then 1 else if id ∈ idsE L then 7 else if (L.length : Int) = cap then 4 else 0
def pushL (cap id key : Int) (L : List (Int × Int)) : List (Int × Int) := if pushE cap id L = 0 then L ++ [(id, key)] else L
def setK (id key : Int) (L : List (Int × Int)) : List (Int × Int) := L.map fun x => if x.1 = id then (id, key) else x
def delK (id : Int) (L : List (Int × Int)) : List (Int × Int) := L.filter fun x => decide (x.1 ≠ id)

theorem idsE_setK (id key : Int) (L : List (Int × Int)) : idsE (setK id key L) = idsE L := by
  unfold idsE setK
  rw [List.map_map]
  refine List.map_congr_left fun x _ => ?_
  show (if x.1 = id then (id, key) else x).1 = x.1
  split
  · rename_i h; exact h.symm
  · rfl
theorem set_setK {es m : List (Int × Int)} (hc : Cons es m) {i : Nat} {e : Int × Int} (he : es[i]? = some e) (key : Int) : es.set i (e.1, key) = setK e.1 key es := by
  apply List.ext_getElem?
  intro j
  unfold setK
  rw [List.getElem?_set, List.getElem?_map]
  by_cases hj : i = j
  · subst hj
    rw [if_pos rfl, if_pos (List.getElem?_eq_some_iff.1 he).1, he]
    simp
  · rw [if_neg hj]
    cases hx : es[j]? with
    | none => rfl
    | some x =>
      have : x.1 ≠ e.1 := fun h => by
        have h1 := hc.at he
        have h2 := hc.at hx
        rw [h, h1] at h2
        simp at h2
        exact hj (by omega)
      simp [this]
theorem delK_perm {es es' L : List (Int × Int)} {e : Int × Int} (hn : (idsE es).Nodup) (hp : (e :: es').Perm es) (hL : es.Perm L) : es'.Perm (delK e.1 L) := by
  have hp2 : (e :: es').Perm L := hp.trans hL
  have hn2 : (idsE (e :: es')).Nodup := (List.Perm.nodup_iff (l₁ := idsE (e :: es')) (l₂ := idsE es) (hp.map (fun x : Int × Int => x.1))).2 hn
  have hnm : e.1 ∉ idsE es' := (List.nodup_cons.1 hn2).1
  have h1 : delK e.1 (e :: es') = es' := by
    unfold delK
    rw [List.filter_cons_of_neg (by simp), List.filter_eq_self]
    intro x hx
    have : x.1 ≠ e.1 := fun h => hnm (List.mem_map.2 ⟨x, hx, h⟩)
    simpa using this
  rw [← h1]
  exact hp2.filter _
theorem sortE_congr {L L' : List (Int × Int)} (h : L.Perm L') : sortE L = sortE L' := by
  have hs : ∀ M : List (Int × Int), (sortE M).Pairwise leE := fun M => by
    have := List.pairwise_mergeSort (le := fun x y => !(Go.Proofs.ltOf cmpE) y x) (l := M) (fun a b c h1 h2 => by
      rw [ltE] at *; simp only [Bool.not_eq_true', decide_eq_false_iff_not] at *; omega) (fun a b => by
      rw [ltE, ltE]; simp only [Bool.or_eq_true, Bool.not_eq_true', decide_eq_false_iff_not]; omega)
    exact this.imp (fun {a b} h => by rw [ltE] at h; simp only [Bool.not_eq_true', decide_eq_false_iff_not] at h; unfold leE; omega)
  exact List.Perm.eq_of_pairwise (le := leE) (fun a b _ _ h1 h2 => leE.anti h1 h2) (hs L) (hs L') (((sortE_perm L).trans h).trans (sortE_perm L').symm)

/-! ### The heap that holds L -/
def HeapA (b : Nat) (cap : Int) (L : List (Int × Int)) : SP := ex fun (p : List (Int × Int) × List (Int × Int)) => st [pu (Cons p.1 p.2 ∧ p.1.Perm L ∧ HOrd p.1), HeapR b cap p.1 p.2]
section
variable {W w w' : World} {b : Nat} {cap : Int} {L : List (Int × Int)} {R : List SP}
theorem HeapA.iff : Own w (HeapA b cap L :: R) ↔ ∃ es m, (Cons es m ∧ es.Perm L ∧ HOrd es) ∧ Own w (HeapR b cap es m :: R) := by
  constructor
  · intro o
    obtain ⟨⟨es, m⟩, h⟩ := Own.ex.1 o
    obtain ⟨h1, h2⟩ := Own.pu.1 (Own.st.1 h)
    exact ⟨es, m, h1, h2⟩
  · rintro ⟨es, m, h1, h2⟩
    exact Own.ex.2 ⟨(es, m), Own.st.2 (Own.pu.2 ⟨h1, h2⟩)⟩
theorem HeapA.new (o : Own w (HeapR b cap [] [] :: R)) : Own w (HeapA b cap [] :: R) := HeapA.iff.2 ⟨[], [], ⟨Cons.empty, .refl _, HOrd.nil⟩, o⟩
theorem HeapA.nodup (o : Own w (HeapA b cap L :: R)) : (idsE L).Nodup := by
  obtain ⟨es, m, ⟨h1, h2, -⟩, -⟩ := HeapA.iff.1 o
  exact (List.Perm.nodup_iff (l₁ := idsE es) (l₂ := idsE L) (h2.map (fun x : Int × Int => x.1))).1 h1.nodup
theorem Cons.mem {es m : List (Int × Int)} (h : Cons es m) (hp : es.Perm L) (id : Int) : (mget m id).isSome = true ↔ id ∈ idsE L := by
  rw [h.isSome]
  exact (hp.map (fun x : Int × Int => x.1)).mem_iff
theorem Cons.none {es m : List (Int × Int)} (h : Cons es m) (hp : es.Perm L) {id : Int} (hn : id ∉ idsE L) : mget m id = none := by
  rw [← h.mem hp] at hn
  cases hm : mget m id with
  | none => rfl
  | some v => rw [hm] at hn; exact absurd rfl hn
theorem Cons.some {es m : List (Int × Int)} (h : Cons es m) (hp : es.Perm L) {x : Int × Int} (hx : x ∈ L) : ∃ i : Nat, mget m x.1 = some (i : Int) ∧ es[i]? = some x :=
  h.find (hp.mem_iff.2 hx)

theorem pushA_spec (id key : Int) (h2 : (L.length : Int) ≤ 900000) (o : Own w (HeapA b cap L :: R)) :
    Calls Try.prog 9 #[.pointer (some ⟨b, 0, none⟩), .int .i64 id, .int .i64 key] w (Ret (.int .i64 (pushE cap id L)) (HeapA b cap (pushL cap id key L) :: R) w) := by
  obtain ⟨es, m, ⟨h1, hp, ho⟩, o1⟩ := HeapA.iff.1 o
  have he : pushErr cap id es m = pushE cap id L := by
    unfold pushErr pushE
    rw [hp.length_eq]
    by_cases hm : id ∈ idsE L
    · rw [if_pos ((h1.mem hp id).2 hm), if_pos hm]
    · rw [if_neg (fun h => hm ((h1.mem hp id).1 h)), if_neg hm]
  refine (push_spec id key (by rw [hp.length_eq]; exact h2) o1).mono ?_
  rintro e w' ⟨rfl, o2, k2⟩
  rw [he]
  refine ⟨rfl, HeapA.iff.2 ⟨_, _, ?_, o2⟩, k2⟩
  by_cases hz : pushErr cap id es m = 0
  · have hg := pushF_good (key := key) h1 hz
    rw [pushL, if_pos (he ▸ hz)]
    exact ⟨hg.1, hg.2.trans (hp.append (.refl _)), pushF_ord ho⟩
  · rw [pushL, if_neg (he ▸ hz), pushF_bad hz]
    exact ⟨h1, hp, ho⟩

theorem updateA_none (id key : Int) (hn : id ∉ idsE L) (o : Own w (HeapA b cap L :: R)) :
    Calls Try.prog 15 #[.pointer (some ⟨b, 0, none⟩), .int .i64 id, .int .i64 key] w (Ret (.int .i64 6) (HeapA b cap L :: R) w) := by
  obtain ⟨es, m, ⟨h1, hp, ho⟩, o1⟩ := HeapA.iff.1 o
  refine (update_none id key (h1.none hp hn) o1).mono ?_
  rintro e w' ⟨rfl, o2, k2⟩
  exact ⟨rfl, HeapA.iff.2 ⟨_, _, ⟨h1, hp, ho⟩, o2⟩, k2⟩
theorem updateA_some (id key : Int) (hm : id ∈ idsE L) (h2 : (L.length : Int) ≤ 900000) (o : Own w (HeapA b cap L :: R)) :
    Calls Try.prog 15 #[.pointer (some ⟨b, 0, none⟩), .int .i64 id, .int .i64 key] w (Ret (.int .i64 0) (HeapA b cap (setK id key L) :: R) w) := by
  obtain ⟨es, m, ⟨h1, hp, ho⟩, o1⟩ := HeapA.iff.1 o
  obtain ⟨x, hx, rfl⟩ := List.mem_map.1 hm
  obtain ⟨i, hi, hix⟩ := h1.some hp hx
  refine (update_some x.1 key i x hi hix rfl h1 (by rw [hp.length_eq]; exact h2) o1).mono ?_
  rintro e w' ⟨rfl, o2, k2⟩
  have hg := updF_good (x := (x.1, key)) hix rfl h1
  refine ⟨rfl, HeapA.iff.2 ⟨_, _, ⟨hg.1, ?_, updF_ord hix rfl h1 ho⟩, o2⟩, k2⟩
  refine hg.2.trans ?_
  rw [set_setK h1 hix]
  exact hp.map _
theorem removeA_none (id : Int) (hn : id ∉ idsE L) (o : Own w (HeapA b cap L :: R)) :
    Calls Try.prog 12 #[.pointer (some ⟨b, 0, none⟩), .int .i64 id] w (Ret (.tuple #[.int .i64 0, .int .i64 6]) (HeapA b cap L :: R) w) := by
  obtain ⟨es, m, ⟨h1, hp, ho⟩, o1⟩ := HeapA.iff.1 o
  refine (remove_none id (h1.none hp hn) o1).mono ?_
  rintro e w' ⟨rfl, o2, k2⟩
  exact ⟨rfl, HeapA.iff.2 ⟨_, _, ⟨h1, hp, ho⟩, o2⟩, k2⟩
theorem removeA_some (x : Int × Int) (hx : x ∈ L) (h2 : (L.length : Int) ≤ 900000) (o : Own w (HeapA b cap L :: R)) :
    Calls Try.prog 12 #[.pointer (some ⟨b, 0, none⟩), .int .i64 x.1] w (Ret (.tuple #[.int .i64 x.2, .int .i64 0]) (HeapA b cap (delK x.1 L) :: R) w) := by
  obtain ⟨es, m, ⟨h1, hp, ho⟩, o1⟩ := HeapA.iff.1 o
  obtain ⟨i, hi, hix⟩ := h1.some hp hx
  obtain ⟨es', l, rfl⟩ := last_split (by have := (List.getElem?_eq_some_iff.1 hix).1; omega : 0 < es.length)
  refine (remove_some x.1 i x l hi hix h1 (by have := hp.length_eq; simp at this; omega) o1).mono ?_
  rintro e w' ⟨rfl, o2, k2⟩
  have hg := remF_good hix h1
  exact ⟨rfl, HeapA.iff.2 ⟨_, _, ⟨hg.1, delK_perm h1.nodup hg.2 hp, remF_ord hix h1 ho⟩, o2⟩, k2⟩
theorem popA_none (o : Own w (HeapA b cap [] :: R)) :
    Calls Try.prog 17 #[.pointer (some ⟨b, 0, none⟩)] w (Ret (.tuple #[.agg #[.int .i64 0, .int .i64 0], .int .i64 5]) (HeapA b cap [] :: R) w) := by
  obtain ⟨es, m, ⟨h1, hp, ho⟩, o1⟩ := HeapA.iff.1 o
  obtain rfl : es = [] := List.eq_nil_of_length_eq_zero hp.length_eq
  refine (pop_none o1).mono ?_
  rintro e w' ⟨rfl, o2, k2⟩
  exact ⟨rfl, HeapA.iff.2 ⟨_, _, ⟨h1, hp, ho⟩, o2⟩, k2⟩
def LeastE (x : Int × Int) (L : List (Int × Int)) : Prop := x ∈ L ∧ ∀ y ∈ L, leE x y
theorem popA_some (x : Int × Int) (hx : LeastE x L) (h2 : (L.length : Int) ≤ 900000) (o : Own w (HeapA b cap L :: R)) :
    Calls Try.prog 17 #[.pointer (some ⟨b, 0, none⟩)] w (Ret (.tuple #[.agg #[.int .i64 x.1, .int .i64 x.2], .int .i64 0]) (HeapA b cap (delK x.1 L) :: R) w) := by
  obtain ⟨es, m, ⟨h1, hp, ho⟩, o1⟩ := HeapA.iff.1 o
  obtain ⟨es', l, rfl⟩ := last_split (by rw [hp.length_eq]; exact List.length_pos_of_mem hx.1 : 0 < es.length)
  obtain ⟨e, he⟩ : ∃ e, (es' ++ [l])[0]? = some e := ⟨_, List.getElem?_eq_getElem (by simp)⟩
  have hex : e = x := leE.anti (ho.least_mem he (hp.mem_iff.2 hx.1)) (hx.2 e (hp.mem_iff.1 (List.mem_of_getElem? he)))
  subst hex
  refine (pop_some e l he h1 (by have := hp.length_eq; simp at this; omega) o1).mono ?_
  rintro e1 w' ⟨rfl, o2, k2⟩
  have hg := remF_good he h1
  exact ⟨rfl, HeapA.iff.2 ⟨_, _, ⟨hg.1, delK_perm h1.nodup hg.2 hp, remF_ord he h1 ho⟩, o2⟩, k2⟩
theorem lenA_spec (o : Own w (HeapA b cap L :: R)) : Calls Try.prog 11 #[.pointer (some ⟨b, 0, none⟩)] w (Ret (.int .i64 L.length) (HeapA b cap L :: R) w) := by
  obtain ⟨es, m, ⟨h1, hp, ho⟩, o1⟩ := HeapA.iff.1 o
  refine (len_spec o1).mono ?_
  rintro e w' ⟨rfl, o2, k2⟩
  exact ⟨by rw [hp.length_eq], HeapA.iff.2 ⟨_, _, ⟨h1, hp, ho⟩, o2⟩, k2⟩
def EntA (L : List (Int × Int)) (b : Nat) (cap : Int) (R : List SP) (w : World) (e : Ending) (w' : World) : Prop :=
  ∃ a c, Ret (.slice a L.length c) (slc 41 2 a L.length c (flat ent (sortE L)) :: HeapA b cap L :: R) w e w'
theorem entriesA_spec (hL : L.length ≤ 1000000) (o : Own w (HeapA b cap L :: R)) : Calls Try.prog 16 #[.pointer (some ⟨b, 0, none⟩)] w (EntA L b cap R w) := by
  obtain ⟨es, m, ⟨h1, hp, ho⟩, o1⟩ := HeapA.iff.1 o
  refine (entries_spec (by rw [hp.length_eq]; exact hL) o1).mono ?_
  rintro e w' ⟨a, c, rfl, o2, k2⟩
  rw [hp.length_eq, sortE_congr hp] at o2
  have o3 : Own w' (HeapA b cap L :: slc 41 2 a L.length c (flat ent (sortE L)) :: R) := HeapA.iff.2 ⟨_, _, ⟨h1, hp, ho⟩, o2.swap⟩
  exact ⟨a, c, by rw [hp.length_eq], o3.swap, k2⟩

set_option maxHeartbeats 800000 in
set_option maxRecDepth 100000 in
theorem keyA_none (id : Int) (hn : id ∉ idsE L) (o : Own w (HeapA b cap L :: R)) :
    Calls Try.prog 18 #[.pointer (some ⟨b, 0, none⟩), .int .i64 id] w (Ret (.tuple #[.int .i64 0, .bool false]) (HeapA b cap L :: R) w) := by
  obtain ⟨es, m, ⟨h1, hp, ho⟩, o0⟩ := HeapA.iff.1 o
  obtain ⟨a, c, mb, o1⟩ := HeapR.iff.1 o0
  have hm := h1.none hp hn
  have c2 := o1.cell 2
  have hlk := placeLook mb (o1.up 2) id true
  rw [hm] at hlk
  simp only [if_true, Option.getD_none, Option.isSome_none] at hlk
  clear h1 hp ho hn
  go_enter Try.func18, Try.ntmps18
  go_wp2
  go_ret2
  exact ⟨rfl, o, ⟨rfl, rfl, rfl⟩⟩
set_option maxHeartbeats 800000 in
set_option maxRecDepth 100000 in
theorem keyA_some (x : Int × Int) (hx : x ∈ L) (o : Own w (HeapA b cap L :: R)) :
    Calls Try.prog 18 #[.pointer (some ⟨b, 0, none⟩), .int .i64 x.1] w (Ret (.tuple #[.int .i64 x.2, .bool true]) (HeapA b cap L :: R) w) := by
  obtain ⟨es, m, ⟨h1, hp, ho⟩, o0⟩ := HeapA.iff.1 o
  obtain ⟨a, c, mb, o1⟩ := HeapR.iff.1 o0
  obtain ⟨i, hm, hix⟩ := h1.some hp hx
  have hi := (List.getElem?_eq_some_iff.1 hix).1
  obtain ⟨g, rfl, d0, d1, hfr, hg⟩ := ent_cells (o1.up 1) hix (by omega)
  have c1 := o1.cell 1
  have c2 := o1.cell 2
  have hlk := placeLook mb (o1.up 2) x.1 true
  rw [hm] at hlk
  simp only [if_true, Option.getD_some, Option.isSome_some] at hlk
  clear h1 hp ho hm hix
  go_enter Try.func18, Try.ntmps18
  go_wp2
  go_ret2
  exact ⟨rfl, o, ⟨rfl, rfl, rfl⟩⟩
end
end Go.Proofs.Ytaphomilgoobiaa
