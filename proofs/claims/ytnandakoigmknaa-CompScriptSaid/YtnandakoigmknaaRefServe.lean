/- The reference order of chapter 22: Serve. -/
import Derived.Test.YtnandakoigmknaaRef22
namespace Go.Proofs.Ytnandakoigmknaa
open Go.RowKit
open SP
section
variable {S : SP} {W w w' : World} {R : List SP} {b : Nat} {reb now : Int} {l : List (Int × Int)} {tags : List Int}

def rlow (by_ : Int) (k : Nat) (tags : List Int) : List Int := (tags.take k).map (fun t => max (t - by_) 0) ++ tags.drop k
theorem rlow_len (by_ : Int) (k : Nat) (tags : List Int) : (rlow by_ k tags).length = tags.length := by
  unfold rlow; rw [List.length_append, List.length_map, List.length_take, List.length_drop]; omega
theorem rlow_get {by_ : Int} {k : Nat} {tags : List Int} {t : Int} (h : tags[k]? = some t) : (rlow by_ k tags)[k]? = some t := by
  have hk := (List.getElem?_eq_some_iff.1 h).1
  unfold rlow
  rw [List.getElem?_append_right (by rw [List.length_map, List.length_take]; omega), List.length_map, List.length_take, List.getElem?_drop]
  rw [show k + (k - min k tags.length) = k from by omega]; exact h
theorem rlow_set {by_ : Int} {k : Nat} {tags : List Int} {t : Int} (h : tags[k]? = some t) : (rlow by_ k tags).set k (max (t - by_) 0) = rlow by_ (k + 1) tags := by
  have hk := (List.getElem?_eq_some_iff.1 h).1
  unfold rlow
  rw [List.set_append_right _ _ (by rw [List.length_map, List.length_take]; omega), List.length_map, List.length_take]
  rw [show k - min k tags.length = 0 from by omega]
  rw [List.take_add_one, h, List.map_append]
  rw [List.drop_eq_getElem_cons hk, List.set_cons_zero]
  simp
theorem rlow_all (by_ : Int) (tags : List Int) : rlow by_ tags.length tags = tags.map (fun t => max (t - by_) 0) := by unfold rlow; simp

theorem atF_some {f : Int} : ∀ (l : List (Int × Int)) (j : Nat), (∀ p ∈ l, p.1 ≠ f) ∧ atF f j l = -1 ∨ ∃ i wt, l[i]? = some (f, wt) ∧ atF f j l = ((j + i : Nat) : Int) ∧ mget l f = some wt
  | [], j => .inl ⟨by simp, rfl⟩
  | p :: l, j => by
    obtain ⟨x, y⟩ := p
    by_cases h : x = f
    · subst h
      exact .inr ⟨0, y, rfl, by simp [atF], by simp [mget]⟩
    · rcases atF_some (f := f) l (j + 1) with ⟨h1, h2⟩ | ⟨i, wt, h1, h2, h3⟩
      · left
        refine ⟨?_, by simp [atF, h, h2]⟩
        intro p hp
        rcases List.mem_cons.1 hp with rfl | hp
        · exact h
        · exact h1 p hp
      · right
        refine ⟨i + 1, wt, by simpa using h1, ?_, ?_⟩
        · simp only [atF, if_neg h, h2]; congr 1; omega
        · unfold mget; rw [if_neg (Ne.symm h)]; exact h3

set_option maxHeartbeats 1600000 in
set_option maxRecDepth 100000 in
theorem refServe_none (f len : Int) (hn2 : l.length ≤ 1000) (hf : atF f 0 l = -1) (o : Own w (RefR S b reb l tags now :: S :: R)) :
    Calls Try.prog 48 #[.pointer (some ⟨b, 0, none⟩), .int .i64 f, .int .i64 len] w (Ret (.int .i64 6) (RefR S b reb l tags now :: S :: R) w) := by
  obtain ⟨a, c, hl, hP, o1⟩ := RefR.iff.1 o
  have c1 := o1.cell 1
  have hat := at_spec (c := c) f hP.1 rfl hn2 (o1.up 1)
  rw [hf] at hat
  go_enter Try.func48, Try.ntmps48
  go_wp2_with fail
  refine hat.mono ?_
  rintro e1 w1 ⟨rfl, rfl⟩
  go_wp2
  go_ret
  exact ⟨rfl, o, Calm.refl w⟩

set_option maxHeartbeats 1600000 in
set_option maxRecDepth 100000 in
theorem refServe_bad (f len : Int) (hn2 : l.length ≤ 1000) {i : Nat} {wt : Int} (hi : l[i]? = some (f, wt)) (hf : atF f 0 l = (i : Int)) (hb : badLW len wt) (o : Own w (RefR S b reb l tags now :: S :: R)) :
    Calls Try.prog 48 #[.pointer (some ⟨b, 0, none⟩), .int .i64 f, .int .i64 len] w (Ret (.int .i64 1) (RefR S b reb l tags now :: S :: R) w) := by
  obtain ⟨a, c, hl, hP, o1⟩ := RefR.iff.1 o
  have c1 := o1.cell 1
  have hil := (List.getElem?_eq_some_iff.1 hi).1
  have hat := at_spec (c := c) f hP.1 rfl hn2 (o1.up 1)
  rw [hf] at hat
  obtain ⟨g, so, rfl, d0, d1⟩ := hP.1 _ _ (o1.up 1) i _ hi
  dsimp only at d0 d1
  have hc := refCost_spec len wt w
  have e : costF len wt = (0, 1) := if_pos hb
  rw [e] at hc
  clear e hb hf
  unfold pairV at hc
  dsimp only at hc
  clear hi
  go_enter Try.func48, Try.ntmps48
  go_wp2_with fail
  refine hat.mono ?_
  rintro e1 w1 ⟨rfl, rfl⟩
  go_wp2_with fail
  refine hc.mono ?_
  rintro e1 w1 ⟨rfl, rfl⟩
  go_wp2
  go_ret
  exact ⟨rfl, o, Calm.refl w⟩

set_option maxHeartbeats 1600000 in
set_option maxRecDepth 100000 in
theorem refServe_range (f : Nat) (len : Int) (hn2 : l.length ≤ 1000) {i : Nat} {wt t : Int} (hi : l[i]? = some ((f : Int), wt)) (hf : atF f 0 l = (i : Int)) (hb : ¬ badLW len wt) (ht : tags[f]? = some t) (htr : 0 ≤ t ∧ t ≤ 1099511627776)
    (hr : 1099511627776 < t + cst len wt) (o : Own w (RefR S b reb l tags now :: S :: R)) :
    Calls Try.prog 48 #[.pointer (some ⟨b, 0, none⟩), .int .i64 (f : Int), .int .i64 len] w (Ret (.int .i64 2) (RefR S b reb l tags now :: S :: R) w) := by
  obtain ⟨a, c, hl, hP, o1⟩ := RefR.iff.1 o
  have c1 := o1.cell 1
  have hil := (List.getElem?_eq_some_iff.1 hi).1
  have hfl := (List.getElem?_eq_some_iff.1 ht).1
  have f1 := o1.cell (2 + f) (refCells_tag ht)
  have hat := at_spec (c := c) f hP.1 rfl hn2 (o1.up 1)
  rw [hf] at hat
  obtain ⟨g, so, rfl, d0, d1⟩ := hP.1 _ _ (o1.up 1) i _ hi
  dsimp only at d0 d1
  have hc := refCost_spec len wt w
  have e : costF len wt = (cst len wt, 0) := if_neg hb
  rw [e] at hc
  have hcr : 45045 ≤ cst len wt ∧ cst len wt ≤ 2952069120 := by unfold badLW at hb; exact cst_range (by omega) (by omega) (by omega) (by omega)
  generalize cst len wt = cs at *
  clear e hb hf ht
  unfold pairV at hc
  dsimp only at hc
  clear hi
  go_enter Try.func48, Try.ntmps48
  go_wp2_with fail
  refine hat.mono ?_
  rintro e1 w1 ⟨rfl, rfl⟩
  go_wp2_with fail
  refine hc.mono ?_
  rintro e1 w1 ⟨rfl, rfl⟩
  go_wp2
  go_ret
  exact ⟨rfl, o, Calm.refl w⟩

def RefServ2 (S : SP) (b : Nat) (reb : Int) (l : List (Int × Int)) (tags1 : List Int) (now1 by_ : Int) (R : List SP) (w : World) (e : Ending) (w' : World) : Prop :=
  if by_ < reb then Ret (.int .i64 0) (RefR S b reb l tags1 now1 :: S :: R) w e w' else Ret (.int .i64 0) (RefR S b reb l (tags1.map fun t => max (t - by_) 0) (now1 - by_) :: S :: R) w e w'

def RLowRel (S : SP) (b : Nat) (reb : Int) (a : Option Addr) (c : Nat) (l : List (Int × Int)) (tags1 : List Int) (now1 by_ : Int) (R : List SP) (w : World) (v : Value) (wr : World) : Prop :=
  ∃ k : Nat, v = .int .i64 (k : Int) ∧ k ≤ 32 ∧ Own wr (cel b 55 (refCells reb a l.length c (rlow by_ k tags1) now1) :: S :: R) ∧ Calm w wr

set_option maxHeartbeats 3200000 in
set_option maxRecDepth 100000 in
theorem refServe_ok (f : Nat) (len : Int) (hn2 : l.length ≤ 1000) (hid : ∀ p ∈ l, 0 ≤ p.1 ∧ p.1 < 32) {i : Nat} {wt t : Int} (hi : l[i]? = some ((f : Int), wt)) (hf : atF f 0 l = (i : Int)) (hb : ¬ badLW len wt) (ht : tags[f]? = some t) (htr : 0 ≤ t ∧ t ≤ 1099511627776)
    (hvals : ∀ x ∈ tags, 0 ≤ x ∧ x ≤ 1099511627776) (hnow : 0 ≤ now ∧ now ≤ 1099511627776)
    (hr : ¬ 1099511627776 < t + cst len wt) {k : Nat} (hsel : refSel (tags.set f (t + cst len wt)) l = .tuple #[.int .i64 (k : Int), .int .i64 0]) {tk : Int} (htk : (tags.set f (t + cst len wt))[k]? = some tk)
    (o : Own w (RefR S b reb l tags now :: S :: R)) :
    Calls Try.prog 48 #[.pointer (some ⟨b, 0, none⟩), .int .i64 (f : Int), .int .i64 len] w (RefServ2 S b reb l (tags.set f (t + cst len wt)) (max now t) (min tk (max now t)) R w) := by
  obtain ⟨a, c, hl, hP, o1⟩ := RefR.iff.1 o
  have c1 := o1.cell 1
  have c34 := o1.cell 34 (refCells_now hl)
  have hfz := o1.frozen
  have hlt := o1.celLt
  have hil := (List.getElem?_eq_some_iff.1 hi).1
  have hfl := (List.getElem?_eq_some_iff.1 ht).1
  have f1 := o1.cell (2 + f) (refCells_tag ht)
  have hat := at_spec (c := c) f hP.1 rfl hn2 (o1.up 1)
  rw [hf] at hat
  obtain ⟨g, so, rfl, d0, d1⟩ := hP.1 _ _ (o1.up 1) i _ hi
  dsimp only at d0 d1
  have hc := refCost_spec len wt w
  have e : costF len wt = (cst len wt, 0) := if_neg hb
  rw [e] at hc
  have hcr : 45045 ≤ cst len wt ∧ cst len wt ≤ 2952069120 := by unfold badLW at hb; exact cst_range (by omega) (by omega) (by omega) (by omega)
  generalize cst len wt = cs at *
  clear e hb hf
  unfold pairV at hc
  dsimp only at hc
  clear hi
  obtain ⟨T1, hT1⟩ : ∃ T1, t + cs = T1 := ⟨_, rfl⟩
  obtain ⟨N1, hN1⟩ : ∃ N1, max now t = N1 := ⟨_, rfl⟩
  rw [hT1] at hsel htk hr ⊢
  rw [hN1]
  have o2 := o1.setCell 34 (.int .i64 N1)
  rw [refCells_setNow hl] at o2
  have f2 := o2.cell (2 + f) (refCells_tag ht)
  have o3 := o2.setCell (2 + f) (.int .i64 T1)
  rw [refCells_setTag hfl] at o3
  have hl1 : (tags.set f T1).length = 32 := by rw [List.length_set]; exact hl
  have hv1 : ∀ x ∈ tags.set f T1, 0 ≤ x ∧ x ≤ 1099511627776 := fun x hx => by
    rcases List.mem_or_eq_of_mem_set hx with h | h
    · exact hvals x h
    · omega
  generalize tags.set f T1 = tags1 at *
  have oR := RefR.iff.2 ⟨_, _, hl1, hP, o3⟩
  clear ht hvals
  have hf32 : f < 32 := by omega
  have hf32' : (f : Int) < 32 := by omega
  have hf0 : 0 ≤ (f : Int) := by omega
  have hf0' : ¬ (f : Int) < 0 := by omega
  go_enter Try.func48, Try.ntmps48
  go_wp2_with fail
  refine hat.mono ?_
  rintro e1 w1 ⟨rfl, rfl⟩
  go_wp2_with fail
  refine hc.mono ?_
  rintro e1 w1 ⟨rfl, rfl⟩
  go_wp2
  refine wp_region_tail 12 (by kernel_rfl) (by kernel_rfl) ?_
  simp only [List.take_succ_cons, List.take_zero, List.drop_succ_cons, List.drop_zero]
  repeat still_step
  refine wpStill_nil ?_
  have hwr : IntKind.i64.wrap T1 = T1 := by rw [IntKind.wrap_i64]; omega
  go_wp2
  refine wp_region_tail 10 (by kernel_rfl) (by kernel_rfl) ?_
  simp only [List.take_succ_cons, List.take_zero, List.drop_succ_cons, List.drop_zero]
  repeat still_step
  refine wpStill_nil ?_
  go_wp2_with fail
  refine (refSelect_spec hid hn2 oR.drew.drew).mono ?_
  rintro e4 w4 ⟨rfl, m, hw⟩
  have o4 : Own w4 (cel b 55 (refCells reb (some ⟨g, so, none⟩) l.length c tags1 N1) :: S :: R) := by rw [hw]; exact o3.drew.drew.drewN m
  have k4 : Calm w w4 := by rw [hw]; exact ⟨rfl, rfl, rfl⟩
  clear hw o3 o2 oR o1 f1 f2 c1 c34 hfz hlt d0 d1
  rw [hsel]
  have hk32 : k < 32 := by have := (List.getElem?_eq_some_iff.1 htk).1; omega
  have hkI : (k : Int) < 32 := by omega
  have hkI0 : 0 ≤ (k : Int) := by omega
  have hkI1 : ¬ (k : Int) < 0 := by omega
  have htkr := hv1 _ (List.mem_of_getElem? htk)
  have g0 := o4.cell 0
  have g34 := o4.cell 34 (refCells_now hl1)
  have gk := o4.cell (2 + k) (refCells_tag htk)
  have hN : 0 ≤ N1 ∧ N1 ≤ 1099511627776 := by omega
  obtain ⟨by_, hby⟩ : ∃ y, min tk N1 = y := ⟨_, rfl⟩
  rw [hby]
  have hbr : 0 ≤ by_ ∧ by_ ≤ 1099511627776 := by omega
  clear hN1 hT1
  by_cases hcmp : by_ < reb
  · go_wp2
    go_quiet (fail)
    go_wp2
    go_ret
    rw [RefServ2, hby, if_pos hcmp]
    exact ⟨rfl, RefR.iff.2 ⟨_, _, hl1, hP, o4.drewN _⟩, k4.dn _⟩
  · go_wp2
    go_quiet (fail)
    have hL : RLowRel S b reb (some ⟨g, so, none⟩) c l tags1 N1 by_ R w (.int .i64 0) (w4.drewN nq) := ⟨0, rfl, by omega, o4.drewN _, k4.dn _⟩
    go_wp2
    have HBY := Lib.hid hby
    clear hby g0 g34 gk
    go_loopw [13] (fun v wr => RLowRel S b reb (some ⟨g, so, none⟩) c l tags1 N1 by_ R w v wr) (fun v _ => 32 - (intOf v).toNat)
    case atStart => exact hL
    case round =>
      clear hL o4 k4
      obtain ⟨j, rfl, hj, oJ, kJ⟩ := hrel
      by_cases hlt : j < 32
      · obtain ⟨y, hy⟩ : ∃ y, tags1[j]? = some y := ⟨_, List.getElem?_eq_getElem (by omega)⟩
        have hyr := hv1 _ (List.mem_of_getElem? hy)
        have gy := oJ.cell (2 + j) (refCells_tag (rlow_get hy))
        have hfz := oJ.frozen
        have hbl := oJ.celLt
        have hjI : (j : Int) < 32 := by omega
        have hjI0 : 0 ≤ (j : Int) := by omega
        have hjI1 : ¬ (j : Int) < 0 := by omega
        have hwr2 : IntKind.i64.wrap (y - by_) = y - by_ := by rw [IntKind.wrap_i64]; omega
        have oN := oJ.setCell (2 + j) (.int .i64 (max (y - by_) 0))
        rw [refCells_setTag (by rw [rlow_len]; omega), rlow_set hy] at oN
        clear hy
        go_wp2
        refine wp_region_tail 13 (by kernel_rfl) (by kernel_rfl) ?_
        simp only [List.take_succ_cons, List.take_zero, List.drop_succ_cons, List.drop_zero]
        repeat still_step
        refine wpStill_nil ?_
        go_wp2
        go_roundw
        case rel => exact ⟨j + 1, by go_num, by omega, oN.drew, ⟨kJ.os, kJ.tape, kJ.output⟩⟩
        case measure => simp [intOf]; omega
      · have hj32 : j = 32 := by omega
        subst hj32
        have hlr : (rlow by_ 32 tags1).length = 32 := by rw [rlow_len]; exact hl1
        have g34 := oJ.cell 34 (refCells_now hlr)
        have hfz := oJ.frozen
        have hbl := oJ.celLt
        have oN := oJ.setCell 34 (.int .i64 (N1 - by_))
        rw [refCells_setNow hlr] at oN
        have e1 : rlow by_ 32 tags1 = tags1.map (fun t => max (t - by_) 0) := by rw [← rlow_all, hl1]
        rw [e1] at oN hlr
        go_wp2
        go_ret
        rw [RefServ2, HBY.out, if_neg (by omega)]
        exact ⟨rfl, RefR.iff.2 ⟨_, _, hlr, hP, oN⟩, ⟨kJ.os, kJ.tape, kJ.output⟩⟩
end
end Go.Proofs.Ytnandakoigmknaa
