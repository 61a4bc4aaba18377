/- The heap: what each of its functions does to its entries and to its map of places. -/
import Derived.Test.YtaphomilgoobiaaProg
import Derived.Test.YtaphomilgoobiaaCom
import Derived.Lib.Hide
import Derived.Deep.DeepCutAuto
namespace Go.Proofs.Ytaphomilgoobiaa
open Go.RowKit
open SP

def ent (x : Int × Int) : List Value := [.int .i64 x.1, .int .i64 x.2]
theorem ent_len (x : Int × Int) : (ent x).length = 2 := rfl

theorem flat_ent_set : ∀ (es : List (Int × Int)) (i : Nat) (x : Int × Int), i < es.length → flat ent (es.set i x) = ((flat ent es).set (i * 2) (.int .i64 x.1)).set (i * 2 + 1) (.int .i64 x.2)
  | [], i, x, h => by simp at h
  | y :: es, 0, x, _ => by simp [flat, ent]
  | y :: es, i + 1, x, h => by
    have := flat_ent_set es i x (by simpa using h)
    unfold flat at *
    have e1 : (i + 1) * 2 = i * 2 + 1 + 1 := by omega
    simp only [List.set_cons_succ, List.flatMap_cons, this, e1]
    simp [ent]

theorem Try.entT : ElemT Try.prog 38 41 2 16 := .mk' (z := .agg #[.int .i64 0, .int .i64 0]) Try.underlying38 (by kernel_rfl) rfl (by decide)

/-- The heap behind block b: its capacity, its entries, its places. -/
def HeapR (b : Nat) (cap : Int) (es m : List (Int × Int)) : SP := ex fun (p : Option Addr × Nat × Nat) =>
  st [cel b 60 [.int .i64 cap, .slice p.1 es.length p.2.1, .map (some p.2.2)], slc 41 2 p.1 es.length p.2.1 (flat ent es), mpI (Value.int .i64) p.2.2 m]

section
variable {W w w' : World} {b : Nat} {cap : Int} {es m : List (Int × Int)} {R : List SP}

theorem HeapR.iff : Own w (HeapR b cap es m :: R) ↔ ∃ a c mb, Own w (cel b 60 [.int .i64 cap, .slice a es.length c, .map (some mb)] :: slc 41 2 a es.length c (flat ent es) :: mpI (Value.int .i64) mb m :: R) := by
  constructor
  · intro o
    obtain ⟨⟨a, c, mb⟩, h⟩ := Own.ex.1 o
    exact ⟨a, c, mb, Own.st.1 h⟩
  · rintro ⟨a, c, mb, h⟩
    exact Own.ex.2 ⟨(a, c, mb), Own.st.2 h⟩


/-- An entry's two cells. -/
theorem ent_cells {a : Option Addr} {n c : Nat} (o : Own w (slc 41 2 a n c (flat ent es) :: R)) {i : Nat} {y : Int × Int} (hy : es[i]? = some y) (hn : 0 < n) :
    ∃ g, a = some ⟨g, 0, none⟩ ∧ w.cell? ⟨g, i * 2, none⟩ = some (.int .i64 y.1) ∧ w.cell? ⟨g, i * 2 + 1, none⟩ = some (.int .i64 y.2) ∧ (∀ j, w.frozen? ⟨g, j, none⟩ = false) ∧ g < w.heap.size := by
  obtain ⟨g, h, hc, hf, hg⟩ := o.slc_cell hn
  exact ⟨g, h, by simpa using hc (i * 2 + 0) _ (flat_get ent_len es i 0 y hy (by omega)), hc (i * 2 + 1) _ (flat_get ent_len es i 1 y hy (by omega)), hf, hg⟩

/-! ### cmp.Compare, cmp.Or, compare -/
def cmpZ (x y : Int) : Int := if x < y then -1 else if y < x then 1 else 0
def orZ (x y : Int) : Int := if x ≠ 0 then x else y
def cmpE (x y : Int × Int) : Int := orZ (cmpZ x.2 y.2) (cmpZ x.1 y.1)

theorem nan64_spec (x : Int) (w : World) : Calls Try.prog 48 #[.int .i64 x] w (fun e w' => e = .returned (.bool false) ∧ w = w') := by
  go_enter Try.func48, Try.ntmps48
  go_wp2
  go_ret
  simp
theorem nan_spec (x : Int) (w : World) : Calls Try.prog 49 #[.int .i64 x] w (fun e w' => e = .returned (.bool false) ∧ w = w') := by
  go_enter Try.func49, Try.ntmps49
  go_wp2
  go_ret
  simp
set_option maxHeartbeats 800000 in
set_option maxRecDepth 100000 in
theorem cmp64_spec (x y : Int) (w : World) : Calls Try.prog 42 #[.int .i64 x, .int .i64 y] w (IsRet (.int .i64 (cmpZ x y)) w) := by
  by_cases h1 : x < y
  · have e : cmpZ x y = -1 := if_pos h1
    rw [e]; clear e
    go_enter Try.func42, Try.ntmps42
    go_wp2_with (go_at_call 48; refine (nan64_spec _ _).mono ?_; rintro e w' ⟨rfl, rfl⟩)
    go_ret
    exact ⟨rfl, rfl⟩
  · by_cases h2 : y < x
    · have e : cmpZ x y = 1 := by unfold cmpZ; rw [if_neg h1, if_pos h2]
      rw [e]; clear e
      go_enter Try.func42, Try.ntmps42
      go_wp2_with (go_at_call 48; refine (nan64_spec _ _).mono ?_; rintro e w' ⟨rfl, rfl⟩)
      go_ret
      exact ⟨rfl, rfl⟩
    · have e : cmpZ x y = 0 := by unfold cmpZ; rw [if_neg h1, if_neg h2]
      rw [e]; clear e
      go_enter Try.func42, Try.ntmps42
      go_wp2_with (go_at_call 48; refine (nan64_spec _ _).mono ?_; rintro e w' ⟨rfl, rfl⟩)
      go_ret
      exact ⟨rfl, rfl⟩
set_option maxHeartbeats 800000 in
set_option maxRecDepth 100000 in
theorem cmp_spec (x y : Int) (w : World) : Calls Try.prog 43 #[.int .i64 x, .int .i64 y] w (IsRet (.int .i64 (cmpZ x y)) w) := by
  by_cases h1 : x < y
  · have e : cmpZ x y = -1 := if_pos h1
    rw [e]; clear e
    go_enter Try.func43, Try.ntmps43
    go_wp2_with (go_at_call 49; refine (nan_spec _ _).mono ?_; rintro e w' ⟨rfl, rfl⟩)
    go_ret
    exact ⟨rfl, rfl⟩
  · by_cases h2 : y < x
    · have e : cmpZ x y = 1 := by unfold cmpZ; rw [if_neg h1, if_pos h2]
      rw [e]; clear e
      go_enter Try.func43, Try.ntmps43
      go_wp2_with (go_at_call 49; refine (nan_spec _ _).mono ?_; rintro e w' ⟨rfl, rfl⟩)
      go_ret
      exact ⟨rfl, rfl⟩
    · have e : cmpZ x y = 0 := by unfold cmpZ; rw [if_neg h1, if_neg h2]
      rw [e]; clear e
      go_enter Try.func43, Try.ntmps43
      go_wp2_with (go_at_call 49; refine (nan_spec _ _).mono ?_; rintro e w' ⟨rfl, rfl⟩)
      go_ret
      exact ⟨rfl, rfl⟩

def OrRel (x y : Int) (i : Value) : Prop := i = .int .i64 0 ∨ (i = .int .i64 1 ∧ x = 0) ∨ (i = .int .i64 2 ∧ x = 0 ∧ y = 0)
set_option maxHeartbeats 800000 in
set_option maxRecDepth 100000 in
theorem or_spec (g : Nat) (x y : Int) (w : World) (h0 : w.cell? ⟨g, 0, none⟩ = some (.int .i64 x)) (h1 : w.cell? ⟨g, 1, none⟩ = some (.int .i64 y)) :
    Calls Try.prog 41 #[.slice (some ⟨g, 0, none⟩) 2 2] w (IsRet (.int .i64 (orZ x y)) w) := by
  go_enter Try.func41, Try.ntmps41
  go_wp2
  go_loop [8] (fun i => OrRel x y i) (fun i => 2 - (intOf i).toNat)
  case atStart => exact .inl rfl
  case round =>
    rcases hrel with rfl | ⟨rfl, rfl⟩ | ⟨rfl, rfl, rfl⟩
    · by_cases hx : x = 0
      · subst hx
        go_wp2
        go_round
        case rel => exact .inr (.inl ⟨rfl, rfl⟩)
        case measure => simp [intOf]
      · have hb : (x == 0) = false := by simpa using hx
        have hb' : (x != 0) = true := by simpa using hx
        go_wp2
        go_ret
        exact ⟨by unfold orZ; rw [if_pos hx]; rfl, rfl⟩
    · by_cases hx : y = 0
      · subst hx
        go_wp2
        go_round
        case rel => exact .inr (.inr ⟨rfl, rfl, rfl⟩)
        case measure => simp [intOf]
      · have hb : (y == 0) = false := by simpa using hx
        have hb' : (y != 0) = true := by simpa using hx
        go_wp2
        go_ret
        exact ⟨rfl, rfl⟩
    · go_wp2
      go_ret
      exact ⟨rfl, rfl⟩

set_option maxHeartbeats 800000 in
set_option maxRecDepth 100000 in
theorem compare_spec (x y : Int × Int) (o : Own w R) :
    Calls Try.prog 28 #[.agg #[.int .i64 x.1, .int .i64 x.2], .agg #[.int .i64 y.1, .int .i64 y.2]] w (Ret (.int .i64 (cmpE x y)) R w) := by
  go_enter Try.func28, Try.ntmps28
  go_wp2
  refine wp_region_tail 9 (by kernel_rfl) (by kernel_rfl) ?_
  simp only [List.take_succ_cons, List.take_zero, List.drop_succ_cons, List.drop_zero]
  repeat still_step
  still_call (IsRet.still (cmp64_spec _ _ _))
  repeat still_step
  refine wpStill_nil ?_
  go_wp2_with (go_at_call 43; refine (cmp_spec _ _ _).mono ?_; rintro e w' ⟨rfl, rfl⟩)
  refine (or_spec (w.heap.size + 1 + 1) (cmpZ x.2 y.2) (cmpZ x.1 y.1) _ ?_ ?_).mono ?_
  · go_simp
  · go_simp
  rintro e w' ⟨rfl, rfl⟩
  go_wp2
  go_ret
  exact ⟨rfl, ((o.more _).more _).more _, ⟨rfl, rfl, rfl⟩⟩

set_option maxHeartbeats 800000 in
set_option maxRecDepth 100000 in
theorem set_spec (i : Int) (x : Int × Int) (h0 : 0 ≤ i) (h1 : i < es.length) (h2 : (es.length : Int) ≤ 1000000) (o : Own w (HeapR b cap es m :: R)) :
    Calls Try.prog 37 #[.pointer (some ⟨b, 0, none⟩), .int .i64 i, .agg #[.int .i64 x.1, .int .i64 x.2]] w
      (Ret (.tuple #[]) (HeapR b cap (es.set i.toNat x) (mput m x.1 i) :: R) w) := by
  obtain ⟨a, c, mb, o1⟩ := HeapR.iff.1 o
  obtain ⟨y, hy⟩ : ∃ y, es[i.toNat]? = some y := ⟨_, List.getElem?_eq_getElem (by omega)⟩
  obtain ⟨g, rfl, d0, d1, hfr, hg⟩ := ent_cells (o1.up 1) hy (by omega)
  have hne : b ≠ g := by
    rcases Own.slc.1 (o1.up 1) with ⟨h, _⟩ | ⟨g', sp, h, _, _, _, _, o3⟩
    · cases h
    · simp only [Option.some.injEq, Addr.mk.injEq] at h
      obtain ⟨rfl, _⟩ := h
      exact o3.swap.ne
  have c0 := o1.cell 0
  have c1 := o1.cell 1
  have c2 := o1.cell 2
  have hb := o1.celLt
  have hf := o1.frozen
  go_enter Try.func37, Try.ntmps37
  go_wp2
  refine wp_region_tail 6 (by kernel_rfl) (by kernel_rfl) ?_
  simp only [List.take_succ_cons, List.take_zero, List.drop_succ_cons, List.drop_zero]
  repeat still_step
  refine wpStill_nil ?_
  go_wp2
  refine wp_region_tail 7 (by kernel_rfl) (by kernel_rfl) ?_
  simp only [List.take_succ_cons, List.take_zero, List.drop_succ_cons, List.drop_zero]
  repeat still_step
  refine wpStill_nil ?_
  have o3 := (o1.up 1).slc_set (i.toNat * 2) (.int .i64 x.1) (by rw [flat_length ent_len]; omega)
  have o4 := o3.slc_set (i.toNat * 2 + 1) (.int .i64 x.2) (by rw [List.length_set, flat_length ent_len]; omega)
  rw [← flat_ent_set es i.toNat x (by omega)] at o4
  have o5 := ((o4.alloc (.cells #[.int .i64 x.1, .int .i64 x.2] 41)).drop.up 2).drew.drew
  go_wp2_with (at_mapUpdate; refine wpList_mapUpdate_mpI rfl _ _ _ rfl Try.underlying58 Try.underlying3 o5 x.1 i rfl rfl rfl ?_; intro w1 o6 k6)
  go_end0
  refine ⟨rfl, HeapR.iff.2 ⟨some ⟨g, 0, none⟩, c, mb, ?_⟩, ⟨k6.os, k6.tape, k6.output⟩⟩
  rw [List.length_set]
  exact (o6.up 1).up 2

/-- Where an entry goes that is moved toward the root. -/
def upF (e : Int × Int) : Nat → Nat → List (Int × Int) → List (Int × Int) → List (Int × Int) × List (Int × Int)
  | 0, i, es, m => (es.set i e, mput m e.1 i)
  | f + 1, i, es, m => if i = 0 then (es.set i e, mput m e.1 i) else
    if cmpE (es.getD ((i - 1) / 2) e) e ≤ 0 then (es.set i e, mput m e.1 i) else
    upF e f ((i - 1) / 2) (es.set i (es.getD ((i - 1) / 2) e)) (mput m (es.getD ((i - 1) / 2) e).1 i)

theorem upF_stop {e : Int × Int} {f i : Nat} {es m : List (Int × Int)} (h : i = 0 ∨ cmpE (es.getD ((i - 1) / 2) e) e ≤ 0) : upF e f i es m = (es.set i e, mput m e.1 i) := by
  cases f with
  | zero => rfl
  | succ f =>
    unfold upF
    rcases h with h | h
    · rw [if_pos h]
    · split <;> rfl

theorem upF_step {e x : Int × Int} {f i j : Nat} {es m : List (Int × Int)} (hf : i ≤ f) (h0 : i ≠ 0) (hj : j = (i - 1) / 2) (hx : es.getD j e = x) (hc : ¬ cmpE x e ≤ 0) :
    upF e f i es m = upF e (f - 1) j (es.set i x) (mput m x.1 i) := by
  cases f with
  | zero => omega
  | succ f =>
    subst hj; subst hx
    show upF e (f + 1) i es m = upF e f ((i - 1) / 2) _ _
    conv => lhs; unfold upF
    rw [if_neg h0, if_neg hc]

def UpRel (b g : Nat) (cap : Int) (e : Int × Int) (n : Nat) (T : List (Int × Int) × List (Int × Int)) (R : List SP) (w : World) (v : Value) (wr : World) : Prop :=
  ∃ (i f : Nat) (es m : List (Int × Int)), v = .int .i64 (i : Int) ∧ i < n ∧ i ≤ f ∧ es.length = n ∧ upF e f i es m = T ∧
    Own wr (cel g 41 [.int .i64 e.1, .int .i64 e.2] :: HeapR b cap es m :: R) ∧ Calm w wr

set_option maxHeartbeats 1600000 in
set_option maxRecDepth 100000 in
theorem up_spec (i : Nat) (e : Int × Int) (he : es[i]? = some e) (h2 : (es.length : Int) ≤ 1000000) (o : Own w (HeapR b cap es m :: R)) :
    Calls Try.prog 23 #[.pointer (some ⟨b, 0, none⟩), .int .i64 (i : Int)] w
      (Ret (.tuple #[]) (HeapR b cap (upF e i i es m).1 (upF e i i es m).2 :: R) w) := by
  obtain ⟨a, c, mb, o1⟩ := HeapR.iff.1 o
  have hi : i < es.length := (List.getElem?_eq_some_iff.1 he).1
  obtain ⟨g, rfl, d0, d1, hfr, hg⟩ := ent_cells (o1.up 1) he (by omega)
  have c1 := o1.cell 1
  have hb := o1.celLt
  generalize hn : es.length = n at *
  have Hn := Lib.hid hn
  clear hn
  have hT : UpRel b w.heap.size cap e n (upF e i i es m) R w (.int .i64 (i : Int)) (w.alloc (.cells #[.int .i64 e.1, .int .i64 e.2] 41)) :=
    ⟨i, i, es, m, rfl, hi, Nat.le_refl _, Hn.out, rfl, (o.alloc _), ⟨rfl, rfl, rfl⟩⟩
  generalize upF e i i es m = T at *
  go_enter Try.func23, Try.ntmps23
  go_wp2
  go_loopw [1] (fun v wr => UpRel b w.heap.size cap e n T R w v wr) (fun v _ => (intOf v).toNat)
  case atStart => exact hT
  case round =>
    obtain ⟨i, f, es', m', rfl, hi', hif, hl, hF, oR, kR⟩ := hrel
    have c0 := oR.cell 0
    have c0' := oR.cell 1
    have hgn := oR.celLt
    have oU := oR.up 1
    by_cases h0 : i = 0
    · subst h0
      have hF := Lib.hid hF
      go_wp2_with fail
      refine (set_spec (es := es') (0 : Nat) e (by omega) (by omega) (by omega) oU).mono ?_
      rintro e2 w2 ⟨rfl, o2, k2⟩
      go_wp2
      go_end0
      refine ⟨rfl, ?_, Calm.trans kR k2⟩
      rw [← hF.out, upF_stop (.inl rfl)]
      exact (o2.up 1).drop
    · obtain ⟨j, hj⟩ : ∃ j : Nat, ((i : Int) - 1) / 2 = (j : Int) := ⟨(i - 1) / 2, by omega⟩
      have hjn : j = (i - 1) / 2 := by omega
      have Hj := Lib.hid hjn
      obtain ⟨x, hx⟩ : ∃ x, es'[j]? = some x := ⟨_, List.getElem?_eq_getElem (by omega)⟩
      have hgd : es'.getD j e = x := by rw [List.getD_eq_getElem?_getD, hx]; rfl
      have Hgd := Lib.hid hgd
      have Hx := Lib.hid hx
      have hp : (0 : Int) < (i : Int) := by omega
      have hje : j < n := by omega
      clear hjn hgd
      obtain ⟨a', c', mb', o1'⟩ := HeapR.iff.1 oU
      obtain ⟨g', rfl, e0, e1, hfr', hg'⟩ := ent_cells (o1'.up 1) hx (by omega)
      have e2 := o1'.cell 1
      clear hx
      have Hl := Lib.hid hl
      have HF := Lib.hid hF
      clear hF
      by_cases hc : cmpE x e ≤ 0
      · go_wp2
        refine wp_region_tail 8 (by kernel_rfl) (by kernel_rfl) ?_
        simp only [List.take_succ_cons, List.take_zero, List.drop_succ_cons, List.drop_zero]
        repeat still_step
        refine wpStill_nil ?_
        go_wp2_with fail
        refine (compare_spec x e oR.drew).mono ?_
        rintro e3 w3 ⟨rfl, o3, k3⟩
        have q0 := o3.cell 0
        have q1 := o3.cell 1
        have hc' : decide (cmpE x e ≤ 0) = true := by simpa using hc
        go_wp2_with fail
        refine (set_spec (es := es') i e (by omega) (by have := Hl.out; omega) (by have := Hl.out; omega) (o3.up 1)).mono ?_
        rintro e4 w4 ⟨rfl, o4, k4⟩
        go_wp2
        go_end0
        refine ⟨rfl, ?_, (kR.trans ⟨k3.os, k3.tape, k3.output⟩).trans k4⟩
        rw [← HF.out, upF_stop (.inr (by rw [← Hj.out, Hgd.out]; exact hc))]
        exact (o4.up 1).drop
      · go_wp2
        refine wp_region_tail 8 (by kernel_rfl) (by kernel_rfl) ?_
        simp only [List.take_succ_cons, List.take_zero, List.drop_succ_cons, List.drop_zero]
        repeat still_step
        refine wpStill_nil ?_
        go_wp2_with fail
        refine (compare_spec x e oR.drew).mono ?_
        rintro e3 w3 ⟨rfl, o3, k3⟩
        have hc' : decide (cmpE x e ≤ 0) = false := by simpa using hc
        obtain ⟨a3, c3, mb3, o3'⟩ := HeapR.iff.1 (o3.up 1)
        obtain ⟨g3, rfl, q0, q1, hfr3, hg3⟩ := ent_cells (o3'.up 1) Hx.out (by omega)
        have q2 := o3'.cell 1
        rw [Hl.out] at q2
        go_wp2_with fail
        refine (set_spec (es := es') i x (by omega) (by have := Hl.out; omega) (by have := Hl.out; omega) (o3.up 1)).mono ?_
        rintro e4 w4 ⟨rfl, o4, k4⟩
        go_wp2
        go_roundw
        case rel =>
          refine ⟨j, f - 1, _, _, rfl, hje, by omega, ?_, ?_, o4.up 1, (kR.trans ⟨k3.os, k3.tape, k3.output⟩).trans k4⟩
          · rw [List.length_set]; exact Hl.out
          · rw [← HF.out]; exact (upF_step hif h0 Hj.out Hgd.out (by omega)).symm
        case measure => simp [intOf]; omega

end
end Go.Proofs.Ytaphomilgoobiaa
