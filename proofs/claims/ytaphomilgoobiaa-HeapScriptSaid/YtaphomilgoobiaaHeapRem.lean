/- The heap: removeAt, Remove, Pop, Update. -/
import Derived.Test.YtaphomilgoobiaaHeapPure
import Derived.Deep.RegionHeld3
import Derived.Maps.OwnSet
import Derived.Deep.DeepCutAuto
namespace Go.Proofs.Ytaphomilgoobiaa
open Go.RowKit
open SP
section
variable {W w w' : World} {b : Nat} {cap : Int} {es m : List (Int × Int)} {R : List SP}

def remF (i : Nat) (e l : Int × Int) (es m : List (Int × Int)) : List (Int × Int) × List (Int × Int) :=
  if i < es.length then
    downF l es.length ((mget (upF l i i (es.set i l) (mput (mdel m e.1) l.1 i)).2 l.1).getD 0).toNat (upF l i i (es.set i l) (mput (mdel m e.1) l.1 i)).1 (upF l i i (es.set i l) (mput (mdel m e.1) l.1 i)).2
  else (es, mdel m e.1)

set_option maxHeartbeats 3200000 in
set_option maxRecDepth 100000 in
theorem removeAt_spec (i : Nat) (e l : Int × Int) (he : (es ++ [l])[i]? = some e) (hc : Cons (es ++ [l]) m) (h2 : (es.length : Int) ≤ 900000) (o : Own w (HeapR b cap (es ++ [l]) m :: R)) :
    Calls Try.prog 24 #[.pointer (some ⟨b, 0, none⟩), .int .i64 (i : Int)] w
      (Ret (.agg #[.int .i64 e.1, .int .i64 e.2]) (HeapR b cap (remF i e l es m).1 (remF i e l es m).2 :: R) w) := by
  obtain ⟨a, c, mb, o1⟩ := HeapR.iff.1 o
  have e1 : (es ++ [l]).length = es.length + 1 := by simp
  rw [e1] at o1
  have hi : i < es.length + 1 := by have := (List.getElem?_eq_some_iff.1 he).1; rwa [e1] at this
  obtain ⟨g, rfl, d0, d1, hfr, hg⟩ := ent_cells (o1.up 1) he (by omega)
  obtain ⟨g2, hg2, f0, f1, _, _⟩ := ent_cells (o1.up 1) (i := es.length) (y := l) (by simp) (by omega)
  obtain rfl : g2 = g := by simpa using hg2.symm
  have hcap := (o1.up 1).slc_len
  clear hg2
  have c0 := o1.cell 0
  have c1 := o1.cell 1
  have c2 := o1.cell 2
  have hb := o1.celLt
  have hf := o1.frozen
  have hne : b ≠ g2 := by
    rcases Own.slc.1 (o1.up 1) with ⟨h, _⟩ | ⟨g', sp, h, _, _, _, _, o3⟩
    · cases h
    · simp only [Option.some.injEq, Addr.mk.injEq] at h
      obtain ⟨rfl, _⟩ := h
      exact o3.swap.ne
  have o2 := o1.setCell 1 (.slice (some ⟨g2, 0, none⟩) es.length c)
  rw [flat_append] at o2
  have O3 := Lib.hid (((o2.up 1).slc_cut (flat_length ent_len es)).up 1)
  have O1 := Lib.hid o1
  clear o2 o1
  have E1 := Lib.hid e1
  clear e1
  generalize hn : es.length = n at c1 f0 f1 hi hcap h2
  have Hn := Lib.hid hn
  clear hn
  generalize hN : n + 1 = N at c1 hi hcap
  have HN := Lib.hid hN.symm
  have hnN : n < N := by omega
  have hNw : IntKind.i64.wrap ((N : Int) - 1) = (n : Int) := by rw [IntWalk.i64_in _ (by omega)]; omega
  have hNn : (N : Int) - 1 = (n : Int) := by omega
  have hnw : IntKind.i64.wrap (n : Int) = (n : Int) := IntWalk.i64_in _ (by omega)
  clear hN
  have hnc : n ≤ c := by omega
  have hnc' : (n : Int) ≤ (c : Int) := by omega
  have hb1 : b < w.heap.size + 1 := by omega
  have hb2 : b < w.heap.size + 1 + 1 := by omega
  have hg1 : g2 < w.heap.size + 1 := by omega
  have hg2 : g2 < w.heap.size + 1 + 1 := by omega
  go_enter Try.func24, Try.ntmps24
  go_wp2
  go_region_held3 (fun w' => w'.cell? ⟨b, 1, none⟩ = some (.slice (some ⟨g2, 0, none⟩) N c) ∧ w'.cell? ⟨g2, n * 2, none⟩ = some (.int .i64 l.1) ∧ w'.cell? ⟨g2, n * 2 + 1, none⟩ = some (.int .i64 l.2)) ((refine ⟨?_, ?_, ?_⟩ <;> go_simp)) (fail)
  go_wp2
  refine wp_region_tail 12 (by kernel_rfl) (by kernel_rfl) ?_
  simp only [List.take_succ_cons, List.take_zero, List.drop_succ_cons, List.drop_zero]
  repeat still_step
  refine wpStill_nil ?_
  go_wp2
  refine wp_region_tail 6 (by kernel_rfl) (by kernel_rfl) ?_
  simp only [List.take_succ_cons, List.take_zero, List.drop_succ_cons, List.drop_zero]
  repeat still_step
  refine wpStill_nil ?_
  have o3 := O3.out
  rw [Hn.out] at o3
  have o4 := (((((o3.alloc (.cells #[.int .i64 0, .int .i64 0] 41)).alloc (.cells #[.int .i64 e.1, .int .i64 e.2] 41)).alloc (.cells #[.int .i64 l.1, .int .i64 l.2] 41)).up 5).drew).drew.drew
  simp only [World.size_alloc, World.size_setCell] at o4
  have fin : ∀ (es' m' : List (Int × Int)) (w3 : World) (x y : Value), Own w3 (HeapR b cap es' m' :: cel (w.heap.size) 41 [x, y] :: R) →
      Own ((w3.setCell ⟨w.heap.size, 0, none⟩ (.int .i64 e.1)).setCell ⟨w.heap.size, 1, none⟩ (.int .i64 e.2)) (HeapR b cap es' m' :: R) :=
    fun es' m' w3 x y o => (((o.up 1).setCell 0 (.int .i64 e.1)).setCell 1 (.int .i64 e.2)).drop
  have oHof : ∀ (w1 : World), Own w1 (mpI (Value.int .i64) mb (mdel m e.1) :: SP.blk (w.heap.size + 1 + 1) (.cells #[.int .i64 l.1, .int .i64 l.2] 41) :: SP.blk (w.heap.size + 1) (.cells #[.int .i64 e.1, .int .i64 e.2] 41) :: SP.blk (w.heap.size) (.cells #[.int .i64 0, .int .i64 0] 41) ::
      cel b 60 [.int .i64 cap, .slice (some ⟨g2, 0, none⟩) n c, .map (some mb)] :: slc 41 2 (some ⟨g2, 0, none⟩) n c (flat ent es) :: R) →
      Own w1 (HeapR b cap es (mdel m e.1) :: cel (w.heap.size + 1 + 1) 41 [.int .i64 l.1, .int .i64 l.2] :: cel (w.heap.size + 1) 41 [.int .i64 e.1, .int .i64 e.2] :: cel (w.heap.size) 41 [.int .i64 0, .int .i64 0] :: R) := by
    intro w1 o
    refine HeapR.iff.2 ⟨some ⟨g2, 0, none⟩, c, mb, ?_⟩
    rw [Hn.out]
    exact (o.up 5).up 5
  by_cases hlt : i < n
  · go_upto_if 52 with (at_delete; refine wpList_delete_mpI rfl _ _ rfl Try.underlying58 Try.underlying3 o4 e.1 rfl rfl ?_; intro w1 o5 k5; have hk5 : Calm w w1 := ⟨k5.os, k5.tape, k5.output⟩; have o6 := o5.up 4; have q0 := o6.cell 0; have q1 := o6.cell 1; have q2 := o6.cell 2; have p1 := o5.up 1; have r0 := Own.cell (T := 41) p1 0; have r1 := Own.cell (T := 41) p1 1; have p2 := o5.up 2; have s0 := Own.cell (T := 41) p2 0; have s1 := Own.cell (T := 41) p2 1; have p3 := o5.up 3; have t0 := Own.cell (T := 41) p3 0; have t1 := Own.cell (T := 41) p3 1; have tf := Own.frozen (T := 41) p3; have tl := Own.celLt (T := 41) p3)
    go_wp2_with fail
    have oH := oHof _ o5
    refine (set_spec (es := es) i l (by omega) (by have := Hn.out; omega) (by have := Hn.out; omega) oH).mono ?_
    rintro e2 w2 ⟨rfl, o7, k7⟩
    go_wp2_with fail
    refine (up_spec (es := es.set i l) i l (List.getElem?_set_self (by have := Hn.out; omega)) (by rw [List.length_set]; have := Hn.out; omega) o7).mono ?_
    rintro e3 w3 ⟨rfl, o8, k8⟩
    have hcf : Cons (es.set i l) (mput (mdel m e.1) l.1 i) := by
      have hie : es[i]? = some e := by rwa [List.getElem?_append_left (by have := Hn.out; omega)] at he
      exact hc.fill hie
    have hcg : Cons ((es.set i l).set i l) (mput (mput (mdel m e.1) l.1 i) l.1 i) := hcf.here (List.getElem?_set_self (by have := Hn.out; omega))
    obtain ⟨hc8, hp8⟩ := upF_good l i i (es.set i l) (mput (mdel m e.1) l.1 i) (by rw [List.length_set]; have := Hn.out; omega) hcg
    have hll : (es.set i l).set i l = es.set i l := by simp
    rw [hll] at hp8
    have hmem : l ∈ (upF l i i (es.set i l) (mput (mdel m e.1) l.1 i)).1 := hp8.mem_iff.2 (List.mem_iff_getElem?.2 ⟨i, List.getElem?_set_self (by have := Hn.out; omega)⟩)
    obtain ⟨k, hk1, hk2⟩ := hc8.find hmem
    have hlen8 : (upF l i i (es.set i l) (mput (mdel m e.1) l.1 i)).1.length = n := by rw [hp8.length_eq, List.length_set]; exact Hn.out
    have hF : Hid (remF i e l es m = downF l n k (upF l i i (es.set i l) (mput (mdel m e.1) l.1 i)).1 (upF l i i (es.set i l) (mput (mdel m e.1) l.1 i)).2) := by
      unfold Hid remF
      rw [if_pos (by have := Hn.out; omega), hk1, Hn.out]
      rfl
    generalize upF l i i (es.set i l) (mput (mdel m e.1) l.1 i) = U at *
    have Hk2 := Lib.hid hk2
    have Hlen8 := Lib.hid hlen8
    clear hc8 hcg hp8 hmem hk2 hlen8 hcf hll
    obtain ⟨a9, c9, mb9, o9⟩ := HeapR.iff.1 o8
    have q5 := o9.cell 2
    have hlk := placeLook mb9 (o9.up 2).drew l.1 false
    rw [hk1] at hlk
    simp only [Bool.false_eq_true, if_false, Option.getD_some] at hlk
    have r5 := Own.cell (o9.up 3) 0
    clear hk1
    go_wp2_with fail
    refine wp_region_tail 8 (by kernel_rfl) (by kernel_rfl) ?_
    simp only [List.take_succ_cons, List.take_zero, List.drop_succ_cons, List.drop_zero]
    repeat still_step
    refine wpStill_nil ?_
    go_wp2_with fail
    refine (down_spec k l Hk2.out (by have := Hlen8.out; omega) o8.drew).mono ?_
    rintro e4 w4 ⟨rfl, o10, k10⟩
    rw [Hlen8.out] at o10
    have z0 := Own.cell (o10.up 2) 0
    have z1 := Own.cell (o10.up 2) 1
    have y0 := Own.cell (o10.up 3) 0
    have y1 := Own.cell (o10.up 3) 1
    have yf := Own.frozen (o10.up 3)
    have yl := Own.celLt (o10.up 3)
    go_wp2
    refine bodyPost_ret (v := .agg #[.int .i64 e.1, .int .i64 e.2]) (by simp [results, Try.results24, go_sem, y0, y1]) rfl ⟨rfl, ?_, ?_⟩
    · rw [hF.out]; exact fin _ _ _ _ _ (((o10.up 1).drop.up 1).drop)
    · have K := ((hk5.trans k7).trans k8).trans ⟨k10.os, k10.tape, k10.output⟩
      exact ⟨K.os, K.tape, K.output⟩
  · have hF : Hid (remF i e l es m = (es, mdel m e.1)) := by
      unfold Hid remF
      rw [if_neg (by have := Hn.out; omega)]
    go_upto_if 52 with (at_delete; refine wpList_delete_mpI rfl _ _ rfl Try.underlying58 Try.underlying3 o4 e.1 rfl rfl ?_; intro w1 o5 k5; have hk5 : Calm w w1 := ⟨k5.os, k5.tape, k5.output⟩; have o6 := o5.up 4; have q0 := o6.cell 0; have q1 := o6.cell 1; have q2 := o6.cell 2; have p1 := o5.up 1; have r0 := Own.cell (T := 41) p1 0; have r1 := Own.cell (T := 41) p1 1; have p2 := o5.up 2; have s0 := Own.cell (T := 41) p2 0; have s1 := Own.cell (T := 41) p2 1; have p3 := o5.up 3; have t0 := Own.cell (T := 41) p3 0; have t1 := Own.cell (T := 41) p3 1; have tf := Own.frozen (T := 41) p3; have tl := Own.celLt (T := 41) p3)
    go_wp2
    have oH := oHof _ o5
    refine bodyPost_ret (v := .agg #[.int .i64 e.1, .int .i64 e.2]) (by simp [results, Try.results24, go_sem, t0, t1]) rfl ⟨rfl, ?_, ⟨hk5.os, hk5.tape, hk5.output⟩⟩
    rw [hF.out]; exact fin _ _ _ _ _ (((oH.up 1).drop.up 1).drop)
end
end Go.Proofs.Ytaphomilgoobiaa
