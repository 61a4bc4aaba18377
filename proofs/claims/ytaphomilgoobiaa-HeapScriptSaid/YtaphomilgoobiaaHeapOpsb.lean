/- The heap: Remove, Pop, Update, Peek, Key. -/
import Derived.Test.YtaphomilgoobiaaHeapRem
namespace Go.Proofs.Ytaphomilgoobiaa
open Go.RowKit
open SP
section
variable {W w w' : World} {b : Nat} {cap : Int} {es m : List (Int × Int)} {R : List SP}

theorem remF_good {es m : List (Int × Int)} {i : Nat} {e l : Int × Int} (he : (es ++ [l])[i]? = some e) (hc : Cons (es ++ [l]) m) :
    Cons (remF i e l es m).1 (remF i e l es m).2 ∧ (e :: (remF i e l es m).1).Perm (es ++ [l]) := by
  have hi : i < es.length + 1 := by have := (List.getElem?_eq_some_iff.1 he).1; simpa using this
  unfold remF
  by_cases hlt : i < es.length
  · rw [if_pos hlt]
    have hie : es[i]? = some e := by rwa [List.getElem?_append_left hlt] at he
    have hcf := hc.fill hie
    have hcg : Cons ((es.set i l).set i l) (mput (mput (mdel m e.1) l.1 i) l.1 i) := hcf.here (List.getElem?_set_self hlt)
    obtain ⟨hc8, hp8⟩ := upF_good l i i (es.set i l) (mput (mdel m e.1) l.1 i) (by rw [List.length_set]; exact hlt) hcg
    have hll : (es.set i l).set i l = es.set i l := by simp
    rw [hll] at hp8
    have hmem : l ∈ (upF l i i (es.set i l) (mput (mdel m e.1) l.1 i)).1 := hp8.mem_iff.2 (List.mem_iff_getElem?.2 ⟨i, List.getElem?_set_self hlt⟩)
    obtain ⟨k, hk1, hk2⟩ := hc8.find hmem
    rw [hk1]
    have hk3 := (List.getElem?_eq_some_iff.1 hk2).1
    obtain ⟨h1, h2⟩ := downF_good l es.length k _ _ hk3 (hc8.here hk2)
    rw [set_self hk2] at h2
    refine ⟨h1, ?_⟩
    have h3 := h2.trans hp8
    refine (h3.cons e).trans ?_
    have h4 : (e :: es.set i l).Perm (l :: es) := by
      rw [List.perm_iff_count]
      intro a
      have h5 : (if es[i] == a then 1 else 0) ≤ es.count a := by
        split
        · rename_i h; rw [beq_iff_eq] at h; subst h; exact List.count_pos_iff.2 (List.getElem_mem _)
        · omega
      have h6 : es[i] = e := (List.getElem?_eq_some_iff.1 hie).2
      rw [List.count_cons, List.count_cons, List.count_set hlt, h6] at *
      split <;> split <;> simp_all <;> omega
    exact h4.trans (by simpa using (List.perm_append_comm (l₁ := [l]) (l₂ := es)))
  · rw [if_neg hlt]
    have hie : i = es.length := by omega
    subst hie
    have hel : e = l := by simpa using he.symm
    subst hel
    exact ⟨hc.last, by simpa using (List.perm_append_comm (l₁ := [e]) (l₂ := es))⟩

theorem entKey (x y : Int) (w : World) : (Instr.field 41 (.agg #[.int .i64 x, .int .i64 y]) 1).run Try.prog w = .ok (.int .i64 y) w := by kernel_rfl

set_option maxHeartbeats 800000 in
set_option maxRecDepth 100000 in
theorem remove_none (id : Int) (hm : mget m id = none) (o : Own w (HeapR b cap es m :: R)) :
    Calls Try.prog 12 #[.pointer (some ⟨b, 0, none⟩), .int .i64 id] w (Ret (.tuple #[.int .i64 0, .int .i64 6]) (HeapR b cap es m :: R) w) := by
  obtain ⟨a, c, mb, o1⟩ := HeapR.iff.1 o
  have c2 := o1.cell 2
  have hlk := placeLook mb (o1.up 2) id true
  rw [hm] at hlk
  simp only [if_true, Option.getD_none, Option.isSome_none] at hlk
  go_enter Try.func12, Try.ntmps12
  go_wp2
  go_ret2
  exact ⟨rfl, o, ⟨rfl, rfl, rfl⟩⟩

set_option maxHeartbeats 800000 in
set_option maxRecDepth 100000 in
theorem remove_some (id : Int) (i : Nat) (e l : Int × Int) (hm : mget m id = some (i : Int)) (he : (es ++ [l])[i]? = some e) (hc : Cons (es ++ [l]) m) (h2 : (es.length : Int) ≤ 900000) (o : Own w (HeapR b cap (es ++ [l]) m :: R)) :
    Calls Try.prog 12 #[.pointer (some ⟨b, 0, none⟩), .int .i64 id] w
      (Ret (.tuple #[.int .i64 e.2, .int .i64 0]) (HeapR b cap (remF i e l es m).1 (remF i e l es m).2 :: R) w) := by
  obtain ⟨a, c, mb, o1⟩ := HeapR.iff.1 o
  have c2 := o1.cell 2
  have hlk := placeLook mb (o1.up 2) id true
  rw [hm] at hlk
  simp only [if_true, Option.getD_some, Option.isSome_some] at hlk
  clear hm
  have hfld := fun (w : World) => entKey e.1 e.2 w
  go_enter Try.func12, Try.ntmps12
  go_wp2_with fail
  refine (removeAt_spec i e l he hc h2 o).mono ?_
  rintro e1 w1 ⟨rfl, o2, k2⟩
  go_wp2
  go_ret2
  exact ⟨rfl, o2, k2⟩

set_option maxHeartbeats 800000 in
set_option maxRecDepth 100000 in
theorem pop_none (o : Own w (HeapR b cap [] m :: R)) :
    Calls Try.prog 17 #[.pointer (some ⟨b, 0, none⟩)] w (Ret (.tuple #[.agg #[.int .i64 0, .int .i64 0], .int .i64 5]) (HeapR b cap [] m :: R) w) := by
  obtain ⟨a, c, mb, o1⟩ := HeapR.iff.1 o
  have c1 := o1.cell 1
  have hb := o1.celLt
  simp only [List.length_nil] at c1
  go_enter Try.func17, Try.ntmps17
  go_wp2
  exact bodyPost_ret (v := .tuple #[.agg #[.int .i64 0, .int .i64 0], .int .i64 5]) (by simp [results, Try.results17, go_sem]) rfl ⟨rfl, o.more _, ⟨rfl, rfl, rfl⟩⟩

set_option maxHeartbeats 800000 in
set_option maxRecDepth 100000 in
theorem pop_some (e l : Int × Int) (he : (es ++ [l])[0]? = some e) (hc : Cons (es ++ [l]) m) (h2 : (es.length : Int) ≤ 900000) (o : Own w (HeapR b cap (es ++ [l]) m :: R)) :
    Calls Try.prog 17 #[.pointer (some ⟨b, 0, none⟩)] w
      (Ret (.tuple #[.agg #[.int .i64 e.1, .int .i64 e.2], .int .i64 0]) (HeapR b cap (remF 0 e l es m).1 (remF 0 e l es m).2 :: R) w) := by
  obtain ⟨a, c, mb, o1⟩ := HeapR.iff.1 o
  have c1 := o1.cell 1
  have hb := o1.celLt
  have e1 : (es ++ [l]).length = es.length + 1 := by simp
  rw [e1] at c1
  have hz : (((es.length + 1 : Nat) : Int) == 0) = false := by simp; omega
  have hz' : (((es.length : Int) + 1) == 0) = false := by simp; omega
  clear e1
  have oA := (o.alloc (.cells #[.int .i64 0, .int .i64 0] 41)).up 1
  go_enter Try.func17, Try.ntmps17
  go_wp2_with fail
  refine (removeAt_spec 0 e l he hc h2 oA).mono ?_
  rintro e1 w1 ⟨rfl, o2, k2⟩
  have o3 := o2.up 1
  have d0 := Own.cell (T := 41) o3 0
  have d1 := Own.cell (T := 41) o3 1
  have df := Own.frozen (T := 41) o3
  have dl := Own.celLt (T := 41) o3
  go_wp2
  refine bodyPost_ret (v := .tuple #[.agg #[.int .i64 e.1, .int .i64 e.2], .int .i64 0]) (by simp [results, Try.results17, go_sem, d0, d1]) rfl ⟨rfl, ?_, ⟨k2.os, k2.tape, k2.output⟩⟩
  exact ((Own.setCell (T := 41) o3 0 (.int .i64 e.1)).setCell 1 (.int .i64 e.2)).drop

def updF (i : Nat) (x : Int × Int) (es m : List (Int × Int)) : List (Int × Int) × List (Int × Int) :=
  downF x es.length ((mget (upF x i i (es.set i x) m).2 x.1).getD 0).toNat (upF x i i (es.set i x) m).1 (upF x i i (es.set i x) m).2

set_option maxHeartbeats 800000 in
set_option maxRecDepth 100000 in
theorem update_none (id key : Int) (hm : mget m id = none) (o : Own w (HeapR b cap es m :: R)) :
    Calls Try.prog 15 #[.pointer (some ⟨b, 0, none⟩), .int .i64 id, .int .i64 key] w (Ret (.int .i64 6) (HeapR b cap es m :: R) w) := by
  obtain ⟨a, c, mb, o1⟩ := HeapR.iff.1 o
  have c2 := o1.cell 2
  have hlk := placeLook mb (o1.up 2) id true
  rw [hm] at hlk
  simp only [if_true, Option.getD_none, Option.isSome_none] at hlk
  go_enter Try.func15, Try.ntmps15
  go_wp2
  go_ret
  exact ⟨rfl, o, ⟨rfl, rfl, rfl⟩⟩

theorem flat_ent_set1 : ∀ (es : List (Int × Int)) (i : Nat) (y : Int × Int) (key : Int), es[i]? = some y → flat ent (es.set i (y.1, key)) = (flat ent es).set (i * 2 + 1) (.int .i64 key)
  | [], i, y, key, h => by simp at h
  | x :: es, 0, y, key, h => by simp at h; subst h; simp [flat, ent]
  | x :: es, i + 1, y, key, h => by
    have := flat_ent_set1 es i y key (by simpa using h)
    unfold flat at *
    have e1 : (i + 1) * 2 + 1 = (i * 2 + 1) + 1 + 1 := by omega
    simp only [List.set_cons_succ, List.flatMap_cons, this, e1]
    simp [ent]

set_option maxHeartbeats 1600000 in
set_option maxRecDepth 100000 in
theorem update_some (id key : Int) (i : Nat) (e : Int × Int) (hm : mget m id = some (i : Int)) (he : es[i]? = some e) (hid : e.1 = id) (hc : Cons es m) (h2 : (es.length : Int) ≤ 900000) (o : Own w (HeapR b cap es m :: R)) :
    Calls Try.prog 15 #[.pointer (some ⟨b, 0, none⟩), .int .i64 id, .int .i64 key] w
      (Ret (.int .i64 0) (HeapR b cap (updF i (id, key) es m).1 (updF i (id, key) es m).2 :: R) w) := by
  obtain ⟨a, c, mb, o1⟩ := HeapR.iff.1 o
  have hi : i < es.length := (List.getElem?_eq_some_iff.1 he).1
  obtain ⟨g, rfl, d0, d1, hfr, hg⟩ := ent_cells (o1.up 1) he (by omega)
  have c1 := o1.cell 1
  have c2 := o1.cell 2
  have hlk := placeLook mb (o1.up 2) id true
  rw [hm] at hlk
  simp only [if_true, Option.getD_some, Option.isSome_some] at hlk
  have o2 := ((o1.up 1).slc_set (i * 2 + 1) (.int .i64 key) (by rw [flat_length ent_len]; omega)).up 1
  rw [← flat_ent_set1 es i e key he, hid] at o2
  have o3 : Own (w.setCell ⟨g, i * 2 + 1, none⟩ (.int .i64 key)) (HeapR b cap (es.set i (id, key)) m :: R) := HeapR.iff.2 ⟨some ⟨g, 0, none⟩, c, mb, by rw [List.length_set]; exact o2⟩
  have hx : (es.set i (id, key))[i]? = some (id, key) := List.getElem?_set_self hi
  have hcr := hc.rekey he key
  rw [hid] at hcr
  obtain ⟨hcu, hpu⟩ := upF_good (id, key) i i (es.set i (id, key)) m (by simpa using hi) (hcr.here hx)
  have hss : (es.set i (id, key)).set i (id, key) = es.set i (id, key) := by simp
  rw [hss] at hpu
  have hlenU : (upF (id, key) i i (es.set i (id, key)) m).1.length = es.length := by rw [hpu.length_eq, List.length_set]
  obtain ⟨k, hk1, hk2⟩ := hcu.find (e := (id, key)) (hpu.mem_iff.2 (List.mem_iff_getElem?.2 ⟨i, hx⟩))
  have hF : Hid (updF i (id, key) es m = downF (id, key) es.length k (upF (id, key) i i (es.set i (id, key)) m).1 (upF (id, key) i i (es.set i (id, key)) m).2) := by
    unfold Hid updF
    rw [hk1]; rfl
  have HU := Lib.hid hlenU
  have Hk2 := Lib.hid hk2
  have Hk1 := Lib.hid hk1
  have Hx := Lib.hid hx
  clear hm he hid hc hcr hcu hpu hss hlenU hk1 hk2 hx o2
  generalize hn : es.length = n at *
  have Hn := Lib.hid hn
  clear hn
  go_enter Try.func15, Try.ntmps15
  go_wp2_with fail
  refine (up_spec i (id, key) Hx.out (by rw [List.length_set]; have := Hn.out; omega) o3).mono ?_
  rintro e3 w3 ⟨rfl, o8, k8⟩
  generalize upF (id, key) i i (es.set i (id, key)) m = U at *
  obtain ⟨a9, c9, mb9, o9⟩ := HeapR.iff.1 o8
  have q5 := o9.cell 2
  have hlk9 := placeLook mb9 (o9.up 2) id false
  rw [Hk1.out] at hlk9
  simp only [Bool.false_eq_true, if_false, Option.getD_some] at hlk9
  go_wp2_with fail
  refine (down_spec k (id, key) Hk2.out (by rw [HU.out]; omega) o8).mono ?_
  rintro e4 w4 ⟨rfl, o10, k10⟩
  rw [HU.out] at o10
  go_wp2
  go_ret
  refine ⟨rfl, by rw [hF.out]; exact o10, ?_⟩
  exact Calm.trans ⟨k8.os, k8.tape, k8.output⟩ k10

theorem updF_good {i : Nat} {e x : Int × Int} (he : es[i]? = some e) (hx : x.1 = e.1) (hc : Cons es m) : Cons (updF i x es m).1 (updF i x es m).2 ∧ (updF i x es m).1.Perm (es.set i x) := by
  have hi : i < es.length := (List.getElem?_eq_some_iff.1 he).1
  have hx2 : x = (e.1, x.2) := by rw [← hx]
  have hg : (es.set i x)[i]? = some x := List.getElem?_set_self hi
  have hcr := hc.rekey he x.2
  rw [← hx2] at hcr
  obtain ⟨hcu, hpu⟩ := upF_good x i i (es.set i x) m (by simpa using hi) (hcr.here hg)
  have hss : (es.set i x).set i x = es.set i x := by simp
  rw [hss] at hpu
  obtain ⟨k, hk1, hk2⟩ := hcu.find (e := x) (hpu.mem_iff.2 (List.mem_iff_getElem?.2 ⟨i, hg⟩))
  unfold updF
  rw [hk1]
  have hk3 := (List.getElem?_eq_some_iff.1 hk2).1
  obtain ⟨h1, h2⟩ := downF_good x es.length k _ _ hk3 (hcu.here hk2)
  rw [set_self hk2] at h2
  exact ⟨h1, h2.trans hpu⟩

theorem pushF_good {cap id key : Int} (hc : Cons es m) (hp : pushErr cap id es m = 0) : Cons (pushF cap id key es m).1 (pushF cap id key es m).2 ∧ (pushF cap id key es m).1.Perm (es ++ [(id, key)]) := by
  have hn : (mget m id).isSome = false := by
    cases h : (mget m id).isSome with
    | false => rfl
    | true => unfold pushErr at hp; rw [h] at hp; split at hp <;> simp at hp
  have hid : id ∉ es.map (·.1) := fun h => by rw [(hc.isSome id).2 h] at hn; cases hn
  unfold pushF
  rw [if_pos hp]
  have h1 := hc.append (e := (id, key)) hid
  obtain ⟨h2, h3⟩ := upF_good (id, key) es.length es.length (es ++ [(id, key)]) m (by simp) h1
  rw [set_self (by simp : (es ++ [(id, key)])[es.length]? = some (id, key))] at h3
  exact ⟨h2, h3⟩
theorem pushF_bad {cap id key : Int} (hp : pushErr cap id es m ≠ 0) : pushF cap id key es m = (es, m) := if_neg hp
end
end Go.Proofs.Ytaphomilgoobiaa
