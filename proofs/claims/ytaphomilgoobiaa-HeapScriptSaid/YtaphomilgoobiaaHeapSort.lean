/- slices.SortFunc at entries by heap.compare; Heap.Entries. -/
import Derived.Test.YtaphomilgoobiaaHeapCol
import Derived.Test.YtaphomilgoobiaaShelfE
namespace Go.Proofs.Ytaphomilgoobiaa
open Go.RowKit Go.Shelf Go.Lib Go.Sort
open SP

theorem flatK_ent (d : Array (Int × Int)) : (flatK ent 2 d).toList = flat ent d.toList := by
  apply List.ext_getElem?
  intro t
  by_cases ht : t < d.size * 2
  · have hi : t / 2 < d.size := by omega
    have h1 : (flatK ent 2 d).toList[t]? = some ((flatK ent 2 d)[t]!) := by
      rw [Array.getElem?_toList, getElem!_pos (flatK ent 2 d) t (by simpa using ht)]
      exact Array.getElem?_eq_getElem _
    have h0 : d.toList[t / 2]? = some d[t / 2]! := by
      rw [Array.getElem?_toList, getElem!_pos d (t / 2) hi]
      exact Array.getElem?_eq_getElem _
    have h2 := flat_get ent_len d.toList (t / 2) (t % 2) d[t / 2]! h0 (Nat.mod_lt _ (by omega))
    rw [h1, get_flatK _ _ _ _ ht]
    rw [show t / 2 * 2 + t % 2 = t from by omega] at h2
    rw [h2]
    have h3 : t % 2 < (ent d[t / 2]!).length := by rw [ent_len]; exact Nat.mod_lt _ (by omega)
    rw [List.getElem?_eq_getElem h3, getElem!_pos (ent d[t / 2]!) (t % 2) h3]
  · rw [List.getElem?_eq_none (by simp; omega), List.getElem?_eq_none (by rw [flat_length ent_len]; simp; omega)]

section
variable {W w w' : World} {R : List SP}

theorem three_grow (w : World) (A B C : Obj) : (((w.alloc A).alloc B).alloc C).drew = grow (w.drewN 1) (#[A] ++ #[B] ++ #[C]) := by
  rw [alloc_eq_grow, alloc_eq_grow, alloc_eq_grow, grow_grow, grow_grow, drew_grow]
  rfl
set_option maxHeartbeats 800000 in
set_option maxRecDepth 100000 in
theorem compareL (x y : Int × Int) (w : World) :
    Calls Try.prog 28 #[.agg #[.int .i64 x.1, .int .i64 x.2], .agg #[.int .i64 y.1, .int .i64 y.2]] w fun e w' => e = .returned (.int .i64 (cmpE x y)) ∧ ∃ q os', w' = grow (w.drewN q) os' := by
  go_enter Try.func28, Try.ntmps28
  go_wp2
  refine wp_region_tail 9 (by kernel_rfl) (by kernel_rfl) ?_
  simp only [List.take_succ_cons, List.take_zero, List.drop_succ_cons, List.drop_zero]
  repeat still_step
  still_call (IsRet.still (cmp64_spec _ _ _))
  repeat still_step
  refine wpStill_nil ?_
  go_wp2_with (go_at_call 43; refine (cmp_spec _ _ _).mono ?_; rintro e w' ⟨rfl, rfl⟩)
  refine (or_spec (w.heap.size + 1 + 1) (cmpZ x.2 y.2) (cmpZ x.1 y.1) _ ?_ ?_).mono ?_
  · go_simp
  · go_simp
  rintro e w' ⟨rfl, rfl⟩
  go_wp2
  go_ret
  exact ⟨rfl, 1, _, three_grow _ _ _ _⟩

theorem ltE (x y : Int × Int) : ltOf cmpE x y = decide (x.2 < y.2 ∨ x.2 = y.2 ∧ x.1 < y.1) := by
  unfold ltOf cmpE orZ cmpZ
  rw [decide_eq_decide]
  by_cases h1 : x.2 < y.2 <;> by_cases h2 : y.2 < x.2 <;> by_cases h3 : x.1 < y.1 <;> by_cases h4 : y.1 < x.1 <;> simp [h1, h2, h3, h4] <;> omega
theorem swoE : SWO (ltOf cmpE) where
  irrefl x := by rw [ltE]; simp
  trans x y z h1 h2 := by rw [ltE] at *; simp only [decide_eq_true_eq] at *; omega
  ntrans x y z h1 h2 := by rw [ltE] at *; simp only [decide_eq_false_iff_not] at *; omega
theorem totE (x y : Int × Int) (h1 : ltOf cmpE x y = false) (h2 : ltOf cmpE y x = false) : x = y := by
  rw [ltE] at h1 h2
  simp only [decide_eq_false_iff_not] at h1 h2
  exact Prod.ext (by omega) (by omega)

/-- The entries in ascending order. -/
def sortE (L : List (Int × Int)) : List (Int × Int) := L.mergeSort fun x y => !(ltOf cmpE) y x
theorem sortE_perm (L : List (Int × Int)) : (sortE L).Perm L := List.mergeSort_perm _ _
theorem sortE_len (L : List (Int × Int)) : (sortE L).length = L.length := (sortE_perm L).length_eq

theorem Own.sorted {g : Nat} {xs sp : List Value} {F : Array Value} {n : Nat} {os : Array Obj} {T : TypeId} (o : Own w (SP.blk g (.cells (xs ++ sp).toArray T (0, 0)) :: R)) (hF : F.size = xs.length) :
    Own (grow (putRow id (Sort.ahead w n) g 0 F) os) (SP.blk g (.cells (F.toList ++ sp).toArray T (0, 0)) :: R) := by
  have hb := o.blk
  have hlt := o.lt
  refine o.put ?_ (fun k hk hk2 => ?_)
  · have h1 : (grow (putRow id (Sort.ahead w n) g 0 F) os).heap[g]? = (putRow id (Sort.ahead w n) g 0 F).heap[g]? := by
      unfold grow
      show ((putRow id (Sort.ahead w n) g 0 F).heap ++ os)[g]? = _
      rw [Array.getElem?_append_left (by simpa [putRow, mapBlock, Sort.ahead] using hlt)]
    rw [h1]
    show (w.heap.modify g (onCells (putCells id 0 F)))[g]? = _
    rw [Array.getElem?_modify, if_pos rfl, hb]
    simp only [Option.map_some, onCells]
    congr 2
    apply Array.ext_getElem?
    intro k
    simp only [putCells, Array.getElem?_mapIdx, List.getElem?_toArray, Nat.zero_le, true_and, Nat.zero_add, Nat.sub_zero, id]
    by_cases hk : k < F.size
    · rw [List.getElem?_append_left (by omega), List.getElem?_append_left (by simpa using hk), List.getElem?_eq_getElem (by omega)]
      simp [hk]
    · rw [List.getElem?_append_right (by omega), List.getElem?_append_right (by simp; omega), hF]
      simp [hF ▸ hk, hF]
  · unfold grow
    show ((putRow id (Sort.ahead w n) g 0 F).heap ++ os)[k]? = _
    rw [Array.getElem?_append_left (by simpa [putRow, mapBlock, Sort.ahead] using hk2)]
    show (w.heap.modify g (onCells (putCells id 0 F)))[k]? = _
    rw [Array.getElem?_modify, if_neg (fun h => hk h.symm)]

set_option maxHeartbeats 1000000 in
theorem sort_spec {a : Option Addr} {n c : Nat} {L : List (Int × Int)} (hn : n = L.length) (hn2 : n ≤ 1000000) (o : Own w (slc 41 2 a n c (flat ent L) :: R)) :
    Calls Try.prog 39 #[.slice a n c, .func (.func 28) #[] #[]] w (Ret (.tuple #[]) (slc 41 2 a n c (flat ent (sortE L)) :: R) w) := by
  subst hn
  rcases Own.slc.1 o with ⟨rfl, hz, rfl, hx, o1⟩ | ⟨g, sp, rfl, h1, h2, h3, h4, o1⟩
  · have hL : L = [] := List.eq_nil_of_length_eq_zero hz
    subst hL
    refine (AnyF.slices_SortFunc_none (P := Try.prog) { Try.sortE with } none 0 _ w).mono ?_
    rintro e w' ⟨rfl, rfl⟩
    have hz2 : sortE [] = [] := by simp [sortE]
    rw [hz2]
    exact ⟨rfl, o, Calm.refl _⟩
  · have eg : ∀ args w, (callFunc 28 args).run Try.prog w = .ok (.enter 28 args) w := enters_of Try.func28 (by kernel_rfl) rfl
    have hH : HoldsK ent 2 w g 0 L.toArray := by
      intro t ht
      have ht2 : t < L.length * 2 := by simpa using ht
      have hget : (flatK ent 2 L.toArray)[t]? = some ((flatK ent 2 L.toArray)[t]!) := by
        rw [getElem!_pos _ t ht]; exact Array.getElem?_eq_getElem ht
      rw [← Array.getElem?_toList, flatK_ent] at hget
      refine ⟨?_, ?_⟩
      · rw [Nat.zero_add]
        exact Own.cell (T := 41) (vs := flat ent L ++ sp) o1 t (by rw [List.getElem?_append_left (List.getElem?_eq_some_iff.1 hget).1]; exact hget)
      · exact Own.frozen (T := 41) (vs := flat ent L ++ sp) o1 _
    have hcon := AnyQ.slices_SortFunc_total Try.sortE 2 Try.isAgg41 Try.sizeOf41 ent (fun _ => rfl) (fun x v hv => by simp [ent] at hv; rcases hv with rfl | rfl <;> rfl) cmpE swoE 28 #[] g 0 c L.toArray w eg (fun _ _ _ _ x y => compareL x y _) hH o1.lt (by simp; omega) totE
    change Calls Try.prog 39 _ _ _ at hcon
    refine hcon.mono ?_
    rintro e w' ⟨rfl, n, os, rfl⟩
    have hsz : (flatK ent 2 (sortE L).toArray).size = (flat ent L).length := by
      rw [size_flatK, flat_length ent_len, List.size_toArray, sortE_len]
    have o2 := Own.sorted (F := flatK ent 2 (sortE L).toArray) (n := n) (os := os) o1 hsz
    rw [flatK_ent] at o2
    refine ⟨rfl, Own.slc.2 (.inr ⟨g, sp, rfl, h1, h2, by rw [flat_length ent_len, sortE_len], h4, o2⟩), ⟨rfl, rfl, rfl⟩⟩

def entRes (L : List (Int × Int)) (b : Nat) (cap : Int) (m : List (Int × Int)) (R : List SP) (w : World) (e : Ending) (w' : World) : Prop :=
  ∃ a c, Ret (.slice a L.length c) (slc 41 2 a L.length c (flat ent (sortE L)) :: HeapR b cap L m :: R) w e w'
set_option maxHeartbeats 1000000 in
/-- Heap.Entries. -/
theorem entries_spec {b : Nat} {cap : Int} {L m : List (Int × Int)} (hL : L.length ≤ 1000000) (o : Own w (HeapR b cap L m :: R)) :
    Calls Try.prog 16 #[.pointer (some ⟨b, 0, none⟩)] w (entRes L b cap m R w) := by
  obtain ⟨a, c, mb, o1⟩ := HeapR.iff.1 o
  have c1 := o1.cell 1
  have o2 := (o1.alloc (.cells #[.slice a L.length c] 38)).re [0, 2, 1, 3]
  have hcol := collect_own w.heap.size rfl hL o2
  have hsrt : Calls Try.prog 26 #[.func (.func 40) #[] #[.pointer (some ⟨w.heap.size, 0, none⟩)], .func (.func 28) #[] #[]] (w.alloc (.cells #[.slice a L.length c] 38)) (entRes L b cap m R w) := by
    go_enter Try.func26, Try.ntmps26
    go_wp2_with (go_at_call 38; refine hcol.mono ?_; rintro e w' ⟨a', c', rfl, o3, k3⟩)
    go_wp2_with (go_at_call 39; refine (sort_spec rfl hL o3).mono ?_; rintro e4 w4 ⟨rfl, o4, k4⟩)
    go_ret
    have o5 : Own w4 (HeapR b cap L m :: slc 41 2 a' L.length c' (flat ent (sortE L)) :: R) := HeapR.iff.2 ⟨a, c, mb, o4.re [1, 3, 2, 4, 0] 1⟩
    exact ⟨a', c', rfl, o5.swap, k3.al.trans k4⟩
  have hval : Calls Try.prog 27 #[.slice a L.length c] w (fun e w' => e = .returned (.func (.func 40) #[] #[.pointer (some ⟨w.heap.size, 0, none⟩)]) ∧ w' = w.alloc (.cells #[.slice a L.length c] 38)) := by
    go_enter Try.func27, Try.ntmps27
    go_wp2
    go_ret
    exact ⟨rfl, rfl⟩
  go_enter Try.func16, Try.ntmps16
  go_wp2_with fail
  refine hval.mono ?_
  rintro e w' ⟨rfl, rfl⟩
  go_wp2_with fail
  refine hsrt.mono ?_
  rintro e5 w5 ⟨a', c', rfl, o5, k5⟩
  go_wp2
  go_ret
  exact ⟨a', c', rfl, o5, k5⟩
end
end Go.Proofs.Ytaphomilgoobiaa
