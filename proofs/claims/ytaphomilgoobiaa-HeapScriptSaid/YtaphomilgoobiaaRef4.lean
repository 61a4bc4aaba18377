/- The reference of chapter 4: a list of entries: NewHeap, at, Push, Update, Key. -/
import Derived.Test.YtaphomilgoobiaaHeapSrt
import Derived.Test.YtaphomilgoobiaaApp
import Derived.Deep.RegionLaw
namespace Go.Proofs.Ytaphomilgoobiaa
open Go.RowKit
open SP

def RefH (b : Nat) (cap : Int) (L : List (Int × Int)) : SP := ex fun (p : Option Addr × Nat) =>
  st [cel b 54 [.int .i64 cap, .slice p.1 L.length p.2], slc 41 2 p.1 L.length p.2 (flat ent L)]
/-- The index of an id, or -1. -/
def atE (id : Int) : Nat → List (Int × Int) → Int
  | _, [] => -1
  | i, p :: l => if p.1 = id then (i : Int) else atE id (i + 1) l
theorem atE_none {id : Int} : ∀ (k : Nat) (L : List (Int × Int)), id ∉ idsE L → atE id k L = -1
  | _, [], _ => rfl
  | k, p :: L, h => by
    have h1 : p.1 ≠ id := fun e => h (by unfold idsE; rw [List.map_cons, e]; exact List.mem_cons_self)
    rw [atE, if_neg h1]
    exact atE_none (k + 1) L (fun hm => h (by unfold idsE at *; rw [List.map_cons]; exact List.mem_cons_of_mem _ hm))
theorem atE_some {id : Int} : ∀ (k : Nat) (L : List (Int × Int)), id ∈ idsE L → ∃ (i : Nat) (x : Int × Int), L[i]? = some x ∧ x.1 = id ∧ atE id k L = ((k + i : Nat) : Int)
  | _, [], h => by simp [idsE] at h
  | k, p :: L, h => by
    by_cases h1 : p.1 = id
    · exact ⟨0, p, rfl, h1, by rw [atE, if_pos h1]; rfl⟩
    · have h2 : id ∈ idsE L := by
        rcases List.mem_cons.1 (show id ∈ p.1 :: idsE L from h) with h3 | h3
        · exact absurd h3.symm h1
        · exact h3
      obtain ⟨i, x, hx, he, ha⟩ := atE_some (k + 1) L h2
      exact ⟨i + 1, x, hx, he, by rw [atE, if_neg h1, ha]; congr 1; omega⟩
theorem nodup_at {L : List (Int × Int)} (hn : (idsE L).Nodup) {i j : Nat} {x y : Int × Int} (hx : L[i]? = some x) (hy : L[j]? = some y) (h : x.1 = y.1) : i = j := by
  obtain ⟨hi, ei⟩ := List.getElem?_eq_some_iff.1 hx
  obtain ⟨hj, ej⟩ := List.getElem?_eq_some_iff.1 hy
  have hp := List.pairwise_iff_getElem.1 (List.nodup_iff_pairwise_ne.1 hn)
  have key : ∀ a b : Nat, ∀ (ha : a < L.length) (hb : b < L.length), a < b → L[a].1 ≠ L[b].1 := fun a b ha hb hab => by
    have := hp a b (by unfold idsE; rw [List.length_map]; exact ha) (by unfold idsE; rw [List.length_map]; exact hb) hab
    unfold idsE at this
    rwa [List.getElem_map, List.getElem_map] at this
  rcases Nat.lt_trichotomy i j with h1 | h1 | h1
  · exact absurd (by rw [ei, ej]; exact h) (key i j hi hj h1)
  · exact h1
  · exact absurd (by rw [ei, ej]; exact h.symm) (key j i hj hi h1)
theorem setK_at {L : List (Int × Int)} (hn : (idsE L).Nodup) {i : Nat} {x : Int × Int} (hx : L[i]? = some x) (key : Int) : L.set i (x.1, key) = setK x.1 key L := by
  apply List.ext_getElem?
  intro j
  unfold setK
  rw [List.getElem?_set, List.getElem?_map]
  by_cases hj : i = j
  · subst hj
    rw [if_pos rfl, if_pos (List.getElem?_eq_some_iff.1 hx).1, hx]
    simp
  · rw [if_neg hj]
    cases hy : L[j]? with
    | none => rfl
    | some y =>
      have : y.1 ≠ x.1 := fun h => hj (nodup_at hn hx hy h.symm)
      simp [this]
theorem delK_at {L : List (Int × Int)} (hn : (idsE L).Nodup) {i : Nat} {x : Int × Int} (hx : L[i]? = some x) : L.take i ++ L.drop (i + 1) = delK x.1 L := by
  obtain ⟨hi, ei⟩ := List.getElem?_eq_some_iff.1 hx
  have hsp : L = L.take i ++ x :: L.drop (i + 1) := by rw [← ei, ← List.drop_eq_getElem_cons hi, List.take_append_drop]
  have hf : ∀ M : List (Int × Int), (∀ y ∈ M, y.1 ≠ x.1) → delK x.1 M = M := fun M h => by
    unfold delK
    rw [List.filter_eq_self]
    intro y hy
    simpa using h y hy
  have h1 : ∀ y ∈ L.take i, y.1 ≠ x.1 := fun y hy h => by
    obtain ⟨j, hj, ej⟩ := List.mem_iff_getElem.1 hy
    have hj2 : j < i := by rw [List.length_take] at hj; omega
    have : L[j]? = some y := by rw [← ej, List.getElem_take]; exact List.getElem?_eq_getElem _
    have := nodup_at hn this hx h
    omega
  have h2 : ∀ y ∈ L.drop (i + 1), y.1 ≠ x.1 := fun y hy h => by
    obtain ⟨j, hj, ej⟩ := List.mem_iff_getElem.1 hy
    have : L[i + 1 + j]? = some y := by rw [← ej, List.getElem_drop]; exact List.getElem?_eq_getElem _
    have := nodup_at hn this hx h
    omega
  conv => rhs; rw [hsp]
  unfold delK
  rw [List.filter_append, List.filter_cons_of_neg (by simp)]
  have e1 := hf _ h1
  have e2 := hf _ h2
  unfold delK at e1 e2
  rw [e1, e2]

theorem drop_cons4 {α : Type} {l : List α} {i : Nat} {x : α} (h : l[i]? = some x) : l.drop i = x :: l.drop (i + 1) := by
  obtain ⟨h1, h2⟩ := List.getElem?_eq_some_iff.1 h
  rw [List.drop_eq_getElem_cons h1, h2]
section
variable {W w w' : World} {b : Nat} {cap : Int} {L : List (Int × Int)} {R : List SP}
theorem RefH.iff : Own w (RefH b cap L :: R) ↔ ∃ a c, Own w (cel b 54 [.int .i64 cap, .slice a L.length c] :: slc 41 2 a L.length c (flat ent L) :: R) := by
  constructor
  · intro o
    obtain ⟨⟨a, c⟩, h⟩ := Own.ex.1 o
    exact ⟨a, c, Own.st.1 h⟩
  · rintro ⟨a, c, h⟩
    exact Own.ex.2 ⟨(a, c), Own.st.2 h⟩
set_option maxHeartbeats 800000 in
set_option maxRecDepth 100000 in
theorem refNew4_spec (c : Int) (h1 : 1 ≤ c) (h2 : c ≤ 4096) (o : Own w R) :
    Calls Try.prog 20 #[.int .i64 c] w fun e w' => ∃ b, Ret (.tuple #[.pointer (some ⟨b, 0, none⟩), .int .i64 0]) (RefH b c [] :: R) w e w' := by
  have o1 := (o.alloc (.cells #[.int .i64 c, .slice none 0 0] 54)).slc_nil (e := 41) (size := 2)
  go_enter Try.func20, Try.ntmps20
  go_wp2
  go_ret2
  exact ⟨_, rfl, RefH.iff.2 ⟨none, 0, o1.swap⟩, ⟨rfl, rfl, rfl⟩⟩
def AtRel4 (L : List (Int × Int)) (id T : Int) (w : World) (v : Value) (wr : World) : Prop := ∃ i : Nat, v = .int .i64 (i : Int) ∧ i ≤ L.length ∧ atE id i (L.drop i) = T ∧ wr = w
set_option maxHeartbeats 800000 in
set_option maxRecDepth 100000 in
theorem at4_spec (id : Int) (hL : L.length ≤ 1000000) (o : Own w (RefH b cap L :: R)) :
    Calls Try.prog 44 #[.pointer (some ⟨b, 0, none⟩), .int .i64 id] w (IsRet (.int .i64 (atE id 0 L)) w) := by
  obtain ⟨a, c, o1⟩ := RefH.iff.1 o
  have c1 := o1.cell 1
  have hT : AtRel4 L id (atE id 0 L) w (.int .i64 0) w := ⟨0, rfl, by omega, rfl, rfl⟩
  generalize atE id 0 L = T at *
  generalize hn : L.length = n at *
  have Hn := Lib.hid hn
  clear hn
  go_enter Try.func44, Try.ntmps44
  go_wp2
  go_loopw [5] (fun v wr => AtRel4 L id T w v wr) (fun v _ => n - (intOf v).toNat)
  case atStart => exact hT
  case round =>
    clear hT
    obtain ⟨i, rfl, hi, hE, rfl⟩ := hrel
    rw [Hn.out] at hi
    have HT := Lib.hid hE
    clear hE
    by_cases hlt : i < n
    · obtain ⟨⟨x, y⟩, hx⟩ : ∃ x, L[i]? = some x := ⟨_, List.getElem?_eq_getElem (by rw [Hn.out]; exact hlt)⟩
      obtain ⟨g, hg, d0, d1, -, -⟩ := ent_cells (o1.up 1) hx (by omega)
      subst hg
      have HD := Lib.hid (drop_cons4 hx)
      clear hx
      dsimp only at d0 d1
      by_cases he : x = id
      · subst he
        go_wp2
        go_ret
        refine ⟨?_, rfl⟩
        rw [← HT.out, HD.out, atE, if_pos rfl]; rfl
      · have heb : (x == id) = false := by simpa using he
        go_wp2
        go_roundw
        case rel => exact ⟨i + 1, by go_num, by rw [Hn.out]; omega, by rw [← HT.out, HD.out, atE, if_neg he], rfl⟩
        case measure => simp [intOf]; omega
    · go_wp2
      go_ret
      refine ⟨?_, rfl⟩
      rw [← HT.out, List.drop_eq_nil_of_le (by rw [Hn.out]; omega)]; rfl
set_option maxHeartbeats 1600000 in
set_option maxRecDepth 100000 in
theorem pushR_spec (id key : Int) (hL : L.length ≤ 900000) (hc : (L.length : Int) ≤ cap) (o : Own w (RefH b cap L :: R)) :
    Calls Try.prog 29 #[.pointer (some ⟨b, 0, none⟩), .int .i64 id, .int .i64 key] w (Ret (.int .i64 (pushE cap id L)) (RefH b cap (pushL cap id key L) :: R) w) := by
  obtain ⟨a, c, o1⟩ := RefH.iff.1 o
  have c0 := o1.cell 0
  have c1 := o1.cell 1
  have hf := o1.frozen
  have hb := o1.celLt
  by_cases h1 : id < 0 ∨ 4096 ≤ id
  · have e1 : pushE cap id L = 1 := if_pos h1
    have e2 : pushL cap id key L = L := if_neg (by rw [e1]; decide)
    rw [e1, e2]; clear e1 e2
    rcases h1 with h1 | h1
    · go_enter Try.func29, Try.ntmps29
      go_wp2
      go_ret
      exact ⟨rfl, o, Calm.refl _⟩
    · have h1' : ¬ id < 0 := by omega
      go_enter Try.func29, Try.ntmps29
      go_wp2
      go_ret
      exact ⟨rfl, o, Calm.refl _⟩
  · have h1a : ¬ id < 0 := by omega
    have h1b : ¬ 4096 ≤ id := by omega
    have hat := at4_spec id (by omega) o
    by_cases hm : id ∈ idsE L
    · have e1 : pushE cap id L = 7 := by unfold pushE; rw [if_neg h1, if_pos hm]
      have e2 : pushL cap id key L = L := if_neg (by rw [e1]; decide)
      rw [e1, e2]; clear e1 e2
      obtain ⟨i, x, -, -, hai⟩ := atE_some 0 L hm
      rw [hai, Nat.zero_add] at hat
      clear hai hm h1
      go_enter Try.func29, Try.ntmps29
      go_wp2_with fail
      refine hat.mono ?_
      rintro e5 w5 ⟨rfl, rfl⟩
      go_wp2
      go_ret
      exact ⟨rfl, o, Calm.refl _⟩
    · rw [atE_none 0 L hm] at hat
      by_cases hfull : (L.length : Int) = cap
      · have e1 : pushE cap id L = 4 := by unfold pushE; rw [if_neg h1, if_neg hm, if_pos hfull]
        have e2 : pushL cap id key L = L := if_neg (by rw [e1]; decide)
        rw [e1, e2]; clear e1 e2
        have hge : cap ≤ (L.length : Int) := by omega
        clear hfull hm h1
        go_enter Try.func29, Try.ntmps29
        go_wp2_with fail
        refine hat.mono ?_
        rintro e5 w5 ⟨rfl, rfl⟩
        go_wp2
        go_quiet (fail)
        go_wp2
        go_ret
        exact ⟨rfl, o.drewN _, ⟨rfl, rfl, rfl⟩⟩
      · have e1 : pushE cap id L = 0 := by unfold pushE; rw [if_neg h1, if_neg hm, if_neg hfull]
        have e2 : pushL cap id key L = L ++ [(id, key)] := if_pos e1
        rw [e1, e2]; clear e1 e2
        have hge : ¬ cap ≤ (L.length : Int) := by omega
        clear hfull hm h1
        have oS := (o1.alloc (.cells #[.int .i64 id, .int .i64 key] 41)).re [2, 1, 0]
        go_enter Try.func29, Try.ntmps29
        go_wp2_with fail
        refine hat.mono ?_
        rintro e5 w5 ⟨rfl, rfl⟩
        go_wp2
        go_quiet (fail)
        go_wp2_with (at_builtin; refine wpList_append_slc rfl _ _ rfl Try.entT rfl (oS.drewN _) ⟨w.heap.size, 0, none⟩ 1 1 [.int .i64 id, .int .i64 key] rfl rfl ?c1 ?c2 ?c3 ?c4 ?c5)
        case c1 => exact Own.news (T := 41) ((o1.drewN _).alloc _)
        case c2 => intro u hu; simp at hu; rcases hu with rfl | rfl <;> rfl
        case c3 => unfold maxLen; omega
        case c4 => omega
        case c5 =>
          intro a' cap' w1 o2 k2
          have o3 := o2.up 1
          have d1 := o3.cell 1
          have df := o3.frozen
          have dl := o3.celLt
          have o4 : Own (w1.setCell ⟨b, 1, none⟩ (.slice a' (L.length + 1) cap')) (cel b 54 [.int .i64 cap, .slice a' (L.length + 1) cap'] :: slc 41 2 a' (L.length + 1) cap' (flat ent L ++ [.int .i64 id, .int .i64 key]) :: R) := (o3.setCell 1 (.slice a' (L.length + 1) cap')).re [2, 0, 1] 1
          have hlen : (L ++ [(id, key)]).length = L.length + 1 := by simp
          have hfl : flat ent (L ++ [(id, key)]) = flat ent L ++ [.int .i64 id, .int .i64 key] := by simp [flat, ent]
          rw [← hlen, ← hfl] at o4
          have oF : Own _ (RefH b cap (L ++ [(id, key)]) :: R) := RefH.iff.2 ⟨_, _, o4⟩
          rw [hlen] at oF
          clear hlen hfl o4
          go_wp2
          go_ret
          exact ⟨rfl, oF, ⟨k2.os, k2.tape, k2.output⟩⟩
end
end Go.Proofs.Ytaphomilgoobiaa
