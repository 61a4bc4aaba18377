/- The heap: moving an entry toward the leaves. -/
import Derived.Test.YtaphomilgoobiaaHeap
namespace Go.Proofs.Ytaphomilgoobiaa
open Go.RowKit
open SP
section
variable {W w w' : World} {b : Nat} {cap : Int} {es m : List (Int × Int)} {R : List SP}

/-- The child of i that comes first. -/
def kidB (e : Int × Int) (i : Nat) (es : List (Int × Int)) : Bool := decide (2 * i + 2 < es.length) && decide (cmpE (es.getD (2 * i + 2) e) (es.getD (2 * i + 1) e) < 0)
def kid (e : Int × Int) (i : Nat) (es : List (Int × Int)) : Nat := if kidB e i es then 2 * i + 2 else 2 * i + 1
def downF (e : Int × Int) : Nat → Nat → List (Int × Int) → List (Int × Int) → List (Int × Int) × List (Int × Int)
  | 0, i, es, m => (es.set i e, mput m e.1 i)
  | f + 1, i, es, m => if es.length ≤ 2 * i + 1 then (es.set i e, mput m e.1 i) else
    if cmpE e (es.getD (kid e i es) e) ≤ 0 then (es.set i e, mput m e.1 i) else
    downF e f (kid e i es) (es.set i (es.getD (kid e i es) e)) (mput m (es.getD (kid e i es) e).1 i)

theorem downF_stop {e : Int × Int} {f i : Nat} {es m : List (Int × Int)} (h : es.length ≤ 2 * i + 1 ∨ cmpE e (es.getD (kid e i es) e) ≤ 0) : downF e f i es m = (es.set i e, mput m e.1 i) := by
  cases f with
  | zero => rfl
  | succ f =>
    unfold downF
    rcases h with h | h
    · rw [if_pos h]
    · split <;> rfl

theorem downF_step {e x : Int × Int} {f i : Nat} {es m : List (Int × Int)} (hf : es.length - i ≤ f) (h0 : 2 * i + 1 < es.length) (hx : es.getD (kid e i es) e = x) (hc : ¬ cmpE e x ≤ 0) :
    downF e f i es m = downF e (f - 1) (kid e i es) (es.set i x) (mput m x.1 i) := by
  cases f with
  | zero => omega
  | succ f =>
    subst hx
    conv => lhs; unfold downF
    rw [if_neg (by omega), if_neg hc]
    rfl

theorem kid_range (e : Int × Int) {i : Nat} {es : List (Int × Int)} (h : 2 * i + 1 < es.length) : i < kid e i es ∧ kid e i es < es.length := by
  unfold kid
  split
  · rename_i hk; simp [kidB] at hk; omega
  · omega

def DownRel (b g : Nat) (cap : Int) (e : Int × Int) (n : Nat) (T : List (Int × Int) × List (Int × Int)) (R : List SP) (w : World) (v : Value) (wr : World) : Prop :=
  ∃ (i f : Nat) (es m : List (Int × Int)), v = .int .i64 (i : Int) ∧ i < n ∧ n - i ≤ f ∧ es.length = n ∧ downF e f i es m = T ∧
    Own wr (cel g 41 [.int .i64 e.1, .int .i64 e.2] :: HeapR b cap es m :: R) ∧ Calm w wr
def KidRel (b g : Nat) (cap : Int) (e : Int × Int) (es m : List (Int × Int)) (R : List SP) (B : Bool) (w : World) (v : Value) (wr : World) : Prop :=
  v = .bool B ∧ Own wr (cel g 41 [.int .i64 e.1, .int .i64 e.2] :: HeapR b cap es m :: R) ∧ Calm w wr
def KidRel2 (b g : Nat) (cap : Int) (e : Int × Int) (es m : List (Int × Int)) (R : List SP) (k : Nat) (w : World) (v : Value) (wr : World) : Prop :=
  v = .int .i64 (k : Int) ∧ Own wr (cel g 41 [.int .i64 e.1, .int .i64 e.2] :: HeapR b cap es m :: R) ∧ Calm w wr

set_option maxHeartbeats 3200000 in
set_option maxRecDepth 100000 in
theorem down_spec (i : Nat) (e : Int × Int) (he : es[i]? = some e) (h2 : (es.length : Int) ≤ 1000000) (o : Own w (HeapR b cap es m :: R)) :
    Calls Try.prog 25 #[.pointer (some ⟨b, 0, none⟩), .int .i64 (i : Int)] w
      (Ret (.tuple #[]) (HeapR b cap (downF e es.length i es m).1 (downF e es.length i es m).2 :: R) w) := by
  obtain ⟨a, c, mb, o1⟩ := HeapR.iff.1 o
  have hi : i < es.length := (List.getElem?_eq_some_iff.1 he).1
  obtain ⟨g, rfl, d0, d1, hfr, hg⟩ := ent_cells (o1.up 1) he (by omega)
  have c1 := o1.cell 1
  have hb := o1.celLt
  generalize hn : es.length = n at *
  have Hn := Lib.hid hn
  clear hn
  have hT : DownRel b w.heap.size cap e n (downF e n i es m) R w (.int .i64 (i : Int)) (w.alloc (.cells #[.int .i64 e.1, .int .i64 e.2] 41)) :=
    ⟨i, n, es, m, rfl, hi, by omega, Hn.out, rfl, (o.alloc _), ⟨rfl, rfl, rfl⟩⟩
  generalize downF e n i es m = T at *
  go_enter Try.func25, Try.ntmps25
  go_wp2
  go_loopw [1] (fun v wr => DownRel b w.heap.size cap e n T R w v wr) (fun v _ => n - (intOf v).toNat)
  case atStart => exact hT
  case round =>
    obtain ⟨i, f, es', m', rfl, hi', hif, hl, hF, oR, kR⟩ := hrel
    have HF := Lib.hid hF
    have Hl := Lib.hid hl
    clear hF hl
    have c0 := oR.cell 0
    have c0' := oR.cell 1
    have hgn := oR.celLt
    have oU := oR.up 1
    obtain ⟨p, hp⟩ : ∃ p : Nat, 2 * (i : Int) + 1 = (p : Int) := ⟨2 * i + 1, by omega⟩
    obtain ⟨q, hq⟩ : ∃ q : Nat, (p : Int) + 1 = (q : Int) := ⟨p + 1, by omega⟩
    obtain ⟨a1, c1', mb1, o1'⟩ := HeapR.iff.1 oU
    have e2 := o1'.cell 1
    rw [Hl.out] at e2
    by_cases h0 : n ≤ p
    · go_wp2_with fail
      refine (set_spec (es := es') i e (by omega) (by have := Hl.out; omega) (by have := Hl.out; omega) oU).mono ?_
      rintro e4 w4 ⟨rfl, o4, k4⟩
      go_wp2
      go_end0
      refine ⟨rfl, ?_, kR.trans k4⟩
      rw [← HF.out, downF_stop (.inl (by have := Hl.out; omega))]
      exact (o4.up 1).drop
    · have h0' : p < n := by omega
      have Hp : Hid (p = 2 * i + 1 ∧ q = 2 * i + 2) := ⟨by omega, by omega⟩
      have hwq : IntKind.i64.wrap (q : Int) = (q : Int) := IntWalk.i64_in _ (by omega)
      go_upto_region 3 with fail
      go_cut [49] (fun v wc => KidRel b w.heap.size cap e es' m' R (kidB e i es') w v wc)
      case first =>
        obtain ⟨x, hx⟩ : ∃ x, es'[p]? = some x := ⟨_, List.getElem?_eq_getElem (by have := Hl.out; omega)⟩
        have Gx : Hid (es'.getD p e = x) := by rw [Hid, List.getD_eq_getElem?_getD, hx]; rfl
        obtain ⟨g', rfl, f0, f1, hfr', hg'⟩ := ent_cells (o1'.up 1) hx (by have := Hl.out; omega)
        have Hx := Lib.hid hx
        clear hx
        by_cases h1 : q < n
        · obtain ⟨y, hy⟩ : ∃ y, es'[q]? = some y := ⟨_, List.getElem?_eq_getElem (by have := Hl.out; omega)⟩
          have Gy : Hid (es'.getD q e = y) := by rw [Hid, List.getD_eq_getElem?_getD, hy]; rfl
          obtain ⟨g2, hg2, f2, f3, _, _⟩ := ent_cells (o1'.up 1) hy (by have := Hl.out; omega)
          obtain rfl : g2 = g' := by simpa using hg2.symm
          clear hg2
          have Hy := Lib.hid hy
          clear hy
          refine wp_region_tail 24 (by kernel_rfl) (by kernel_rfl) ?_
          simp only [List.take_succ_cons, List.take_zero, List.drop_succ_cons, List.drop_zero]
          repeat still_step
          refine wpStill_nil ?_
          go_wp2_with fail
          refine (compare_spec y x oR.drew).mono ?_
          rintro e3 w3 ⟨rfl, o3, k3⟩
          have hB : Hid (decide (cmpE y x < 0) = kidB e i es') := by
            obtain ⟨rfl, rfl⟩ := Hp.out
            unfold Hid kidB
            rw [Gx.out, Gy.out, Hl.out, decide_eq_true h1, Bool.true_and]
          go_wp2_with fail
          go_meet
          exact ⟨by rw [hB.out], o3, kR.trans ⟨k3.os, k3.tape, k3.output⟩⟩
        · have hB : Hid (false = kidB e i es') := by
            obtain ⟨rfl, rfl⟩ := Hp.out
            unfold Hid kidB
            rw [Hl.out, decide_eq_false h1, Bool.false_and]
          have hd : decide (q < n) = false := decide_eq_false h1
          go_quiet (fail)
          go_wp2_with fail
          go_meet
          exact ⟨by rw [← hB.out], oR.drewN _, ⟨kR.os, kR.tape, kR.output⟩⟩
      case rest =>
        obtain ⟨rfl, o3, k3⟩ := hcut
        go_upto_if 49 with fail
        go_cut [5] (fun v wc => KidRel2 b w.heap.size cap e es' m' R (kid e i es') w v wc)
        case first =>
          generalize hk : kidB e i es' = B
          have Hk : Hid ((if B then (q : Int) else (p : Int)) = (kid e i es' : Int)) := by
            obtain ⟨rfl, rfl⟩ := Hp.out; unfold Hid kid; rw [hk]; cases B <;> rfl
          clear hk
          cases B
          · go_wp2
            go_meet
            exact ⟨by rw [← Hk.out]; rfl, o3, k3⟩
          · go_wp2
            go_meet
            exact ⟨by rw [← Hk.out]; rfl, o3, k3⟩
        case rest =>
          obtain ⟨rfl, o4, k4⟩ := hcut
          have hkr := kid_range e (i := i) (es := es') (by have := Hp.out.1; have := Hl.out; omega)
          clear o3 k3
          rw [Hl.out] at hkr
          obtain ⟨z, hz⟩ : ∃ z, es'[kid e i es']? = some z := ⟨_, List.getElem?_eq_getElem (by have := Hl.out; omega)⟩
          have Gz : Hid (es'.getD (kid e i es') e = z) := by unfold Hid; rw [List.getD_eq_getElem?_getD, hz]; rfl
          generalize hkk : kid e i es' = k at *
          have Hkk := Lib.hid hkk
          have Hz := Lib.hid hz
          clear hkk hz
          have oV := o4.up 1
          obtain ⟨a5, c5, mb5, o5⟩ := HeapR.iff.1 oV
          obtain ⟨g5, rfl, q0, q1, _, _⟩ := ent_cells (o5.up 1) Hz.out (by have := Hl.out; omega)
          have q2 := o5.cell 1
          rw [Hl.out] at q2
          have r0 := o4.cell 0
          have r1 := o4.cell 1
          have hwk : IntKind.i64.wrap (k : Int) = (k : Int) := IntWalk.i64_in _ (by omega)
          have hkn : k < n := by omega
          by_cases hc : cmpE e z ≤ 0
          · have hc' : decide (cmpE e z ≤ 0) = true := by simpa using hc
            go_upto_region 5 with fail
            refine wp_region_tail 8 (by kernel_rfl) (by kernel_rfl) ?_
            simp only [List.take_succ_cons, List.take_zero, List.drop_succ_cons, List.drop_zero]
            repeat still_step
            refine wpStill_nil ?_
            go_wp2_with fail
            refine (compare_spec e z o4.drew).mono ?_
            rintro e6 w6 ⟨rfl, o6, k6⟩
            have s0 := o6.cell 0
            have s1 := o6.cell 1
            go_wp2_with fail
            refine (set_spec (es := es') i e (by omega) (by have := Hl.out; omega) (by have := Hl.out; omega) (o6.up 1)).mono ?_
            rintro e7 w7 ⟨rfl, o7, k7⟩
            go_wp2
            go_end0
            refine ⟨rfl, ?_, (k4.trans ⟨k6.os, k6.tape, k6.output⟩).trans k7⟩
            rw [← HF.out, downF_stop (.inr (by rw [Hkk.out, Gz.out]; omega))]
            exact (o7.up 1).drop
          · have hc' : decide (cmpE e z ≤ 0) = false := by simpa using hc
            go_upto_region 5 with fail
            refine wp_region_tail 8 (by kernel_rfl) (by kernel_rfl) ?_
            simp only [List.take_succ_cons, List.take_zero, List.drop_succ_cons, List.drop_zero]
            repeat still_step
            refine wpStill_nil ?_
            go_wp2_with fail
            refine (compare_spec e z o4.drew).mono ?_
            rintro e6 w6 ⟨rfl, o6, k6⟩
            obtain ⟨a8, c8, mb8, o8⟩ := HeapR.iff.1 (o6.up 1)
            obtain ⟨g8, rfl, s0, s1, _, _⟩ := ent_cells (o8.up 1) Hz.out (by have := Hl.out; omega)
            have s2 := o8.cell 1
            rw [Hl.out] at s2
            go_wp2_with fail
            refine (set_spec (es := es') i z (by omega) (by have := Hl.out; omega) (by have := Hl.out; omega) (o6.up 1)).mono ?_
            rintro e7 w7 ⟨rfl, o7, k7⟩
            go_wp2
            go_roundw
            case rel =>
              refine ⟨k, f - 1, _, _, rfl, hkn, by omega, ?_, ?_, o7.up 1, (k4.trans ⟨k6.os, k6.tape, k6.output⟩).trans k7⟩
              · rw [List.length_set]; exact Hl.out
              · rw [← HF.out, ← Hkk.out]
                exact (downF_step (by have := Hl.out; omega) (by have := Hl.out; have := Hp.out.1; omega) (by rw [Hkk.out]; exact Gz.out) (by omega)).symm
            case measure => simp [intOf]; omega

end
end Go.Proofs.Ytaphomilgoobiaa
