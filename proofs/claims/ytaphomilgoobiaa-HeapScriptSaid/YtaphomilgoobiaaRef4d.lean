/- Peek of the heap and of the reference; the reference's Pop. -/
import Derived.Test.YtaphomilgoobiaaRef4c
namespace Go.Proofs.Ytaphomilgoobiaa
open Go.RowKit
open SP
section
variable {W w w' : World} {b : Nat} {cap : Int} {L : List (Int × Int)} {R : List SP}
set_option maxHeartbeats 800000 in
set_option maxRecDepth 100000 in
theorem peekA_none (o : Own w (HeapA b cap [] :: R)) :
    Calls Try.prog 32 #[.pointer (some ⟨b, 0, none⟩)] w (Ret (.tuple #[.agg #[.int .i64 0, .int .i64 0], .int .i64 5]) (HeapA b cap [] :: R) w) := by
  obtain ⟨es, m, ⟨h1, hp, ho⟩, o0⟩ := HeapA.iff.1 o
  obtain rfl : es = [] := List.eq_nil_of_length_eq_zero hp.length_eq
  obtain ⟨a, c, mb, o1⟩ := HeapR.iff.1 o0
  have c1 := o1.cell 1
  have hb := o1.celLt
  simp only [List.length_nil] at c1
  clear h1 hp ho
  go_enter Try.func32, Try.ntmps32
  go_wp2
  exact bodyPost_ret (v := .tuple #[.agg #[.int .i64 0, .int .i64 0], .int .i64 5]) (by simp [results, Try.results32, go_sem]) rfl ⟨rfl, o.more _, ⟨rfl, rfl, rfl⟩⟩
set_option maxHeartbeats 800000 in
set_option maxRecDepth 100000 in
theorem peekA_some (x : Int × Int) (hx : LeastE x L) (h2 : (L.length : Int) ≤ 900000) (o : Own w (HeapA b cap L :: R)) :
    Calls Try.prog 32 #[.pointer (some ⟨b, 0, none⟩)] w (Ret (.tuple #[.agg #[.int .i64 x.1, .int .i64 x.2], .int .i64 0]) (HeapA b cap L :: R) w) := by
  obtain ⟨es, m, ⟨h1, hp, ho⟩, o0⟩ := HeapA.iff.1 o
  have hpos : 0 < es.length := by rw [hp.length_eq]; exact List.length_pos_of_mem hx.1
  obtain ⟨e, he⟩ : ∃ e, es[0]? = some e := ⟨_, List.getElem?_eq_getElem hpos⟩
  have hex : e = x := leE.anti (ho.least_mem he (hp.mem_iff.2 hx.1)) (hx.2 e (hp.mem_iff.1 (List.mem_of_getElem? he)))
  subst hex
  obtain ⟨a, c, mb, o1⟩ := HeapR.iff.1 o0
  obtain ⟨g, hg, d0, d1, -, hgl⟩ := ent_cells (o1.up 1) he hpos
  subst hg
  rw [Nat.zero_mul] at d0 d1
  rw [Nat.zero_add] at d1
  have c1 := o1.cell 1
  have hb := o1.celLt
  have hz : ((es.length : Int) == 0) = false := by rw [beq_eq_false_iff_ne]; omega
  have hcap := (o1.up 1).slc_len.2.1
  have hp0 : (0 : Int) < (es.length : Int) := by omega
  clear h1 hp ho hx he
  go_enter Try.func32, Try.ntmps32
  go_wp2
  exact bodyPost_ret (v := .tuple #[.agg #[.int .i64 e.1, .int .i64 e.2], .int .i64 0]) (by simp [results, Try.results32, go_sem]) rfl ⟨rfl, o.more _, ⟨rfl, rfl, rfl⟩⟩

theorem lessB_iff (x y : Int × Int) : lessB x y = true ↔ ¬ leE y x := by
  unfold lessB leE
  simp only [decide_eq_true_eq]
  omega
def PkRel (b rb xb : Nat) (cap : Int) (L : List (Int × Int)) (R : List SP) (w : World) (v : Value) (wr : World) : Prop :=
  ∃ (i : Nat) (y : Int × Int), v = .int .i64 (i : Int) ∧ 1 ≤ i ∧ i ≤ L.length ∧ y ∈ L ∧ (∀ j z, j < i → L[j]? = some z → leE y z) ∧
    Own wr (cel xb 41 [.int .i64 y.1, .int .i64 y.2] :: cel rb 41 [.int .i64 0, .int .i64 0] :: RefH b cap L :: R) ∧ Calm w wr
set_option maxHeartbeats 800000 in
set_option maxRecDepth 100000 in
theorem peekR_none (o : Own w (RefH b cap [] :: R)) :
    Calls Try.prog 33 #[.pointer (some ⟨b, 0, none⟩)] w (Ret (.tuple #[.agg #[.int .i64 0, .int .i64 0], .int .i64 5]) (RefH b cap [] :: R) w) := by
  obtain ⟨a, c, o1⟩ := RefH.iff.1 o
  have c1 := o1.cell 1
  have hb := o1.celLt
  simp only [List.length_nil] at c1
  go_enter Try.func33, Try.ntmps33
  go_wp2
  exact bodyPost_ret (v := .tuple #[.agg #[.int .i64 0, .int .i64 0], .int .i64 5]) (by simp [results, Try.results33, go_sem]) rfl ⟨rfl, o.more _, ⟨rfl, rfl, rfl⟩⟩
set_option maxHeartbeats 1600000 in
set_option maxRecDepth 100000 in
theorem peekR_some (x : Int × Int) (hx : LeastE x L) (h2 : (L.length : Int) ≤ 900000) (o : Own w (RefH b cap L :: R)) :
    Calls Try.prog 33 #[.pointer (some ⟨b, 0, none⟩)] w (Ret (.tuple #[.agg #[.int .i64 x.1, .int .i64 x.2], .int .i64 0]) (RefH b cap L :: R) w) := by
  obtain ⟨a, c, o1⟩ := RefH.iff.1 o
  have hpos : 0 < L.length := List.length_pos_of_mem hx.1
  obtain ⟨e, he⟩ : ∃ e, L[0]? = some e := ⟨_, List.getElem?_eq_getElem hpos⟩
  obtain ⟨g, hg, d0, d1, -, hgl⟩ := ent_cells (o1.up 1) he hpos
  subst hg
  rw [Nat.zero_mul] at d0 d1
  rw [Nat.zero_add] at d1
  have c1 := o1.cell 1
  have hb := o1.celLt
  have hz : ((L.length : Int) == 0) = false := by rw [beq_eq_false_iff_ne]; omega
  have hcap := (o1.up 1).slc_len.2.1
  have hp0 : (0 : Int) < (L.length : Int) := by omega
  have oA := ((o.alloc (.cells #[.int .i64 0, .int .i64 0] 41)).alloc (.cells #[.int .i64 e.1, .int .i64 e.2] 41))
  have hs : (w.alloc (.cells #[.int .i64 0, .int .i64 0] 41)).heap.size = w.heap.size + 1 := by simp
  rw [hs] at oA
  have hT : PkRel b w.heap.size (w.heap.size + 1) cap L R w (.int .i64 1) ((w.alloc (.cells #[.int .i64 0, .int .i64 0] 41)).alloc (.cells #[.int .i64 e.1, .int .i64 e.2] 41)) :=
    ⟨1, e, rfl, by omega, by omega, List.mem_of_getElem? he, fun j z hj hz => by
      obtain rfl : j = 0 := by omega
      rw [he] at hz; cases hz; exact leE.refl _, oA, ⟨rfl, rfl, rfl⟩⟩
  clear oA hs he
  go_enter Try.func33, Try.ntmps33
  go_wp2
  go_loopw [5] (fun v wr => PkRel b w.heap.size (w.heap.size + 1) cap L R w v wr) (fun v _ => L.length - (intOf v).toNat)
  case atStart => exact hT
  case round =>
    clear hT c1 d0 d1 hb o1
    obtain ⟨i, y, rfl, hi1, hi, hym, hy, oR, kR⟩ := hrel
    obtain ⟨a9, c9, o2⟩ := RefH.iff.1 (oR.up 2)
    have c1 := o2.cell 1
    have cb := o2.celLt
    have y0 := oR.cell 0
    have y1 := oR.cell 1
    have yf := oR.frozen
    have yl := oR.celLt
    have r0 := (oR.up 1).cell 0
    have r1 := (oR.up 1).cell 1
    have rf := (oR.up 1).frozen
    have rl := (oR.up 1).celLt
    by_cases hlt : i < L.length
    · obtain ⟨z, hz9⟩ : ∃ z, L[i]? = some z := ⟨_, List.getElem?_eq_getElem hlt⟩
      obtain ⟨g9, hg9, e0, e1, -, hg9l⟩ := ent_cells (o2.up 1) hz9 (by omega)
      subst hg9
      have HZ := Lib.hid hz9
      have HY := Lib.hid hy
      have HYM := Lib.hid hym
      clear hz9 hy hym
      by_cases hl : lessB z y = true
      · go_wp2
        refine wp_region_tail 8 (by kernel_rfl) (by kernel_rfl) ?_
        simp only [List.take_succ_cons, List.take_zero, List.drop_succ_cons, List.drop_zero]
        repeat still_step
        refine wpStill_nil ?_
        go_wp2_with fail
        refine (less_spec z y oR.drew).mono ?_
        rintro e3 w3 ⟨rfl, o3, k3⟩
        rw [hl]
        obtain ⟨a8, c8, o4⟩ := RefH.iff.1 (o3.up 2)
        have q1 := o4.cell 1
        obtain ⟨g8, hg8, f0, f1, -, -⟩ := ent_cells (o4.up 1) HZ.out (by omega)
        subst hg8
        have x0 := o3.cell 0
        have x1 := o3.cell 1
        have xf := o3.frozen
        have xl := o3.celLt
        go_wp2
        go_roundw
        case rel =>
          refine ⟨i + 1, z, by go_num, by omega, by omega, List.mem_of_getElem? HZ.out, fun j v hj hv => ?_, (o3.setCell 0 (.int .i64 z.1)).setCell 1 (.int .i64 z.2), kR.trans ⟨k3.os, k3.tape, k3.output⟩⟩
          by_cases hji : j = i
          · subst hji; rw [HZ.out] at hv; cases hv; exact leE.refl _
          · exact (leE.of_not ((lessB_iff z y).1 hl)).trans (HY.out j v (by omega) hv)
        case measure => simp [intOf]; omega
      · have hl2 : lessB z y = false := by simpa using hl
        go_wp2
        refine wp_region_tail 8 (by kernel_rfl) (by kernel_rfl) ?_
        simp only [List.take_succ_cons, List.take_zero, List.drop_succ_cons, List.drop_zero]
        repeat still_step
        refine wpStill_nil ?_
        go_wp2_with fail
        refine (less_spec z y oR.drew).mono ?_
        rintro e3 w3 ⟨rfl, o3, k3⟩
        rw [hl2]
        go_wp2
        go_roundw
        case rel =>
          refine ⟨i + 1, y, by go_num, by omega, by omega, HYM.out, fun j v hj hv => ?_, o3, kR.trans ⟨k3.os, k3.tape, k3.output⟩⟩
          by_cases hji : j = i
          · subst hji; rw [HZ.out] at hv; cases hv
            exact Classical.byContradiction fun hn => hl ((lessB_iff z y).2 hn)
          · exact HY.out j v (by omega) hv
        case measure => simp [intOf]; omega
    · have hyx : y = x := leE.anti (by
        obtain ⟨j, hj⟩ := List.getElem?_of_mem hx.1
        exact hy j x (by have := (List.getElem?_eq_some_iff.1 hj).1; omega) hj) (hx.2 y hym)
      subst hyx
      clear hx hy hym
      have oE := (((oR.up 1).setCell 0 (.int .i64 y.1)).setCell 1 (.int .i64 y.2)).re [2, 3, 0, 1]
      go_wp2
      refine bodyPost_ret (v := .tuple #[.agg #[.int .i64 y.1, .int .i64 y.2], .int .i64 0]) (by simp [results, Try.results33, go_sem, r0, r1]) rfl ⟨rfl, ?_, ⟨kR.os, kR.tape, kR.output⟩⟩
      exact ((((oR.up 1).setCell 0 (.int .i64 y.1)).setCell 1 (.int .i64 y.2)).re [0, 1, 2] 2)
end
end Go.Proofs.Ytaphomilgoobiaa
