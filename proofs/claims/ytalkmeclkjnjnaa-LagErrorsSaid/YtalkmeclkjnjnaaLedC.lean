/- The reference's ledger: Leave. -/
import Derived.Test.YtalkmeclkjnjnaaLedB
import Derived.Test.YtalkmeclkjnjnaaLagV
import Derived.Test.YtalkmeclkjnjnaaLagT
namespace Go.Proofs.Ytalkmeclkjnjnaa
open Go.RowKit
open SP
section
variable {P W' : SP} {W w w' : World} {R : List SP} {b : Nat} {L : List Tg}
def LedMid (b : Nat) (D : List Tg) (P : SP) (R : List SP) (w wc : World) : Prop :=
  ∃ (a9 : Option Addr) (c9 : Nat), Own wc (slc 70 3 a9 D.length c9 (flat tagC D) :: cel b 48 [.slice a9 D.length c9] :: P :: R) ∧ Calm w wc
theorem led_mid {w6 : World} {a6 a0 : Option Addr} {n n0 c0 c6 : Nat} {D : List Tg} {xs : List Value} (hn : n = D.length) (hx : xs = flat tagC D)
    (o : Own w6 (slc 70 3 a6 n c6 xs :: cel b 48 [.slice a0 n0 c0] :: P :: R)) (k : Calm w w6) :
    LedMid b D P R w (w6.setCell ⟨b, 0, none⟩ (.slice a6 n c6)) := by
  subst hn
  subst hx
  exact ⟨a6, c6, (o.swap.setCell 0 (.slice a6 D.length c6)).swap, ⟨k.os, k.tape, k.output⟩⟩
def LvLRel (b : Nat) (D : List Tg) (Q : List Int) (a9 : Option Addr) (c9 : Nat) (ga : Option Addr) (gc : Nat) (P : SP) (R : List SP) (w : World) (v10 : Value) (wr : World) : Prop :=
  ∃ (i : Nat), v10 = .int .i64 (i : Int) ∧ i ≤ D.length ∧
    Own wr (slc 70 3 a9 D.length c9 (flat tagC (addS D (Q.take i))) :: slc 2 1 ga D.length gc (i64s Q) :: cel b 48 [.slice a9 D.length c9] :: P :: R) ∧ Calm w wr
theorem addS_asc {D : List Tg} (h : D.Pairwise fun a b => a.f < b.f) (Q : List Int) : (addS D Q).Pairwise fun a b => a.f < b.f := by
  have e := addS_fw D Q
  have ef : (addS D Q).map (·.f) = D.map (·.f) := by
    have := congrArg (List.map Prod.fst) e
    rw [List.map_map, List.map_map] at this
    exact this
  rw [asc_iff, ef, ← asc_iff]; exact h

set_option maxHeartbeats 6400000 in
set_option maxRecDepth 100000 in
theorem ledLeave_spec {N : Nat} (f : Int) (hok : LgOk N L) (hN : (N : Int) ≤ 1000000000000) (o : Own w (LedR P b L :: P :: R)) :
    Calls Try.prog 21 #[.pointer (some ⟨b, 0, none⟩), .int .i64 f] w (LedPost (.tuple #[.int .i64 (nLeave L f).1.1, .int .i64 (nLeave L f).1.2]) b (nLeave L f).2 P R w) := by
  have hL := hok.ok.len
  have hat := ledAt_spec f (by omega) o
  cases hf : fget L f with
  | none =>
    have e : nLeave L f = ((0, 6), L) := by unfold nLeave; rw [hf]
    rw [e]; clear e
    rw [idxT_none 0 L hf] at hat
    clear hf hok
    go_enter Try.func21, Try.ntmps21
    go_wp2_with fail
    refine hat.mono ?_
    rintro e1 w1 ⟨rfl, rfl⟩
    go_wp2
    go_ret2
    exact LedPost.same o ⟨rfl, rfl⟩
  | some t =>
    have e : nLeave L f = ((t.s, 0), addS (delT f L) (lagSplit t.s (wts (delT f L)))) := by unfold nLeave; rw [hf]
    rw [e]; clear e
    obtain ⟨i, hi, hai⟩ := idxT_some 0 L hf
    rw [hai, Nat.zero_add] at hat
    have hil := (List.getElem?_eq_some_iff.1 hi).1
    obtain ⟨ht, rfl⟩ := fget_some hf
    have hdel := delT_atP hok.ok.asc hi
    have hokD := hok.del ht
    have hlagD : ∀ u ∈ delT t.f L, -(8192 * (N : Int)) ≤ u.s ∧ u.s ≤ 8192 * (N : Int) := fun u hu => hokD.lag hu
    have hts := hok.lag ht
    have hab : Go.Proofs.Ytalkmeclkjnjnaa.ab t.s ≤ 36028797018963968 := by unfold Go.Proofs.Ytalkmeclkjnjnaa.ab; omega
    have hptD := ptsOf_ok hokD.ok
    have hD := hokD.ok.len
    have hasc := hokD.ok.asc'
    have hasc2 := hokD.ok.asc
    have hQa := lagSplit_abs t.s (wts_pos hokD.ok)
    have hts2 : Go.Proofs.Ytalkmeclkjnjnaa.ab t.s ≤ 8192 * (N : Int) := by unfold Go.Proofs.Ytalkmeclkjnjnaa.ab; omega
    have HDEL := Lib.hid hdel
    have HQA := Lib.hid (And.intro hQa hts2)
    have HLD := Lib.hid hlagD
    have HAB := Lib.hid hab
    have HPT := Lib.hid hptD
    have HASC := Lib.hid (And.intro hasc hasc2)
    have HN := Lib.hid hN
    clear hdel hokD hlagD hts hab hptD hasc hasc2 hQa hts2 hN
    obtain ⟨a, c, ⟨⟨hP, hs⟩, hc⟩, o1⟩ := LedR.iff.1 o
    obtain ⟨g, so, hag, d0, d1, d2⟩ := hP _ _ (o1.up 1) i t hi
    obtain ⟨g0, hg0⟩ : ∃ g0, a = some ⟨g0, 0, none⟩ := by
      rcases hs with ⟨h, _⟩ | h
      · rw [hag] at h; cases h
      · exact h
    rw [hg0] at hag
    cases hag
    subst hg0
    rw [Nat.zero_add] at d0 d1 d2
    have c1 := o1.cell 0
    have hfz := o1.frozen
    have hlt := o1.celLt
    have hg2 : g < w.heap.size := World.block_lt_of_cell? w _ d0
    have HI := Lib.hid hi
    have oZ := slc_zero (e := 70) (size := 3) ((o1.drew.alloc (.cells #[] 70)))
    have s1 := tags_cut (i := 0) (k := i) (c := c) hP (by omega) (oZ.up 2)
    rw [Nat.zero_mul, Nat.add_zero, List.drop_zero] at s1
    have hp2 : ∀ (w : World) (R : List SP) (a : Option Addr) (c' : Nat), (a = some ⟨g, (i + 1) * 3, none⟩ ∨ L.length - (i + 1) = 0) → Own w (P :: R) → IsSrc w (.slice a (L.length - (i + 1)) c') 3 (L.length - (i + 1)) (flat tagC (L.drop (i + 1))) := fun w R a c' ha o => by
      have e : ((L.drop (i + 1)).take (L.length - (i + 1))) = L.drop (i + 1) := List.take_of_length_le (by rw [List.length_drop]; omega)
      rcases ha with rfl | ha
      · have := tags_cut (i := i + 1) (k := L.length - (i + 1)) (c := c') hP (by omega) o
        rw [e, Nat.zero_add] at this
        exact this
      · rw [ha]
        have : L.drop (i + 1) = [] := List.drop_eq_nil_of_le (by omega)
        rw [this]
        exact ⟨a, c', rfl, by simp [flat], by simp [flat], .inl rfl⟩
    have HP2 := Lib.hid hp2
    have hcl : (L.take i ++ L.drop (i + 1)).length = i + (L.length - (i + 1)) := by rw [List.length_append, List.length_take, List.length_drop]; omega
    have HC2 := Lib.hid hcl
    clear hp2 hcl hf hai hi
    have b1 : (0 : Int) ≤ (i : Int) := by omega
    have b2 : (i : Int) ≤ (c : Int) := by omega
    have b2' : i ≤ c := by omega
    have b7 : (i : Int) + 1 ≤ (L.length : Int) := by omega
    have b8 : (i : Int) + 1 ≤ (c : Int) := by omega
    have b9 : i + 1 ≤ L.length := by omega
    have b4 : 0 ≤ (i : Int) + 1 := by omega
    have N1 : Hid (0 + i ≤ maxLen) := Lib.hid (by unfold maxLen; omega)
    have N2 : Hid ((0 + i) * 24 ≤ 140737488355328) := Lib.hid (by omega)
    have N3 : Hid (i + (L.length - (i + 1)) ≤ maxLen) := Lib.hid (by unfold maxLen; omega)
    have N4 : Hid ((i + (L.length - (i + 1))) * 24 ≤ 140737488355328) := Lib.hid (by omega)
    have b5 : IntKind.i64.wrap ((i : Int) + 1) = (i : Int) + 1 := by rw [IntKind.wrap_i64]; omega
    have b6 : ((i : Int) + 1).toNat = i + 1 := by omega
    go_enter Try.func21, Try.ntmps21
    go_wp2_with fail
    refine hat.mono ?_
    rintro e1 w1 ⟨rfl, rfl⟩
    clear hat
    go_upto_region 5 with fail
    go_cut [40] (fun _ wc => LedMid b (delT t.f L) P R w wc)
    case first =>
      by_cases hic : i + 1 = c
      · subst hic
        have z1 : (i : Int) ≤ (i : Int) + 1 := by omega
        have z2 : (L.length : Int) ≤ (i : Int) + 1 := by omega
        have z3 : L.length ≤ i + 1 := by omega
        have HDZ : Hid (L.drop (i + 1) = []) := Lib.hid (List.drop_eq_nil_of_le z3)
        have src0 : ∀ (w : World) (a : Option Addr) (c' : Nat), IsSrc w (.slice a 0 c') 3 0 [] := fun w a c' => ⟨a, c', rfl, by simp, by simp, .inl rfl⟩
        have SRC := Lib.hid src0
        have N5 : Hid (i + 0 ≤ maxLen) := Lib.hid (by unfold maxLen; omega)
        have N6 : Hid ((i + 0) * 24 ≤ 140737488355328) := Lib.hid (by omega)
        have hti : Hid ((L.take i ++ ([] : List Tg)).length = i) := Lib.hid (by rw [List.append_nil, List.length_take]; omega)
        clear src0
        go_region_law (first
          | (refine step_append_src rfl _ _ rfl Try.lineT rfl oZ rfl s1 N1.out N2.out ?_; intro a5 c5 w5 o5 k5; have o5z := slc_plus o5; have q5 := (o5.up 1).cell 0)
          | (refine step_append_src rfl _ _ rfl Try.lineT rfl o5z rfl (SRC.out _ _ _) N5.out N6.out ?_; intro a6 c6 w6 o6 k6; have q6 := (o6.up 1).cell 0; have qf6 := (o6.up 1).frozen; have ql6 := (o6.up 1).celLt))
        all_goals go_wp2
        all_goals go_meet
        all_goals (have k10 := Calm.trans k5 k6; rw [← HDEL.out, HDZ.out]; exact led_mid hti.out.symm (by simp) o6 ⟨k10.os, k10.tape, k10.output⟩)
      · have hic2 : ((i : Int) + 1 == (c : Int)) = false := by rw [beq_eq_false_iff_ne]; omega
        have hic3 : ¬ c = i + 1 := by omega
        go_region_law (first
          | (refine step_append_src rfl _ _ rfl Try.lineT rfl oZ rfl s1 N1.out N2.out ?_; intro a5 c5 w5 o5 k5; have o5z := slc_plus o5; have q5 := (o5.up 1).cell 0)
          | (refine step_append_src rfl _ _ rfl Try.lineT rfl o5z rfl (HP2.out _ _ _ _ (.inl rfl) (o5z.up 2)) N3.out N4.out ?_; intro a6 c6 w6 o6 k6; have q6 := (o6.up 1).cell 0; have qf6 := (o6.up 1).frozen; have ql6 := (o6.up 1).celLt))
        all_goals go_wp2
        all_goals go_meet
        all_goals (have k10 := Calm.trans k5 k6; rw [← HDEL.out]; exact led_mid HC2.out.symm (flat_append _ _ _).symm o6 ⟨k10.os, k10.tape, k10.output⟩)
    case rest =>
      obtain ⟨a9, c9, o9, k9⟩ := hcut
      clear oZ s1 o1 o c1 hfz hlt d0 d1 d2 hg2 hc hs hP
      generalize delT t.f L = D at *
      have hpc := ledPartsC_spec (by omega) (tagsAt_slc (T := 70) a9 D.length c9 D rfl) o9.swap
      go_wp2_with fail
      refine hpc.mono ?_
      rintro e3 w3 ⟨pa, pc, rfl, o10, k10⟩
      have hsp := refSplit_spec (w := w3) (c := pc) t.s HAB.out (partsAt_slc pa D.length pc (ptsOf D) (ptsOf_len D).symm) HPT.out (ptsOf_len D).symm o10
      go_wp2_with fail
      refine hsp.mono ?_
      rintro e4 w4 ⟨ga, gc, rfl, o11, k11⟩
      rw [pws_pts, ptsOf_len] at o11
      rw [ptsOf_len]
      obtain ⟨er, her⟩ : ∃ er : Int, (if ptsOf D = [] then (5 : Int) else 0) = er := ⟨_, rfl⟩
      rw [her]
      clear her
      have hQl : (lagSplit t.s (wts D)).length = D.length := by rw [lagSplit_len]; unfold wts; rw [List.length_map]
      generalize lagSplit t.s (wts D) = Q at *
      have HQ := Lib.hid hQl
      have hT : LvLRel b D Q a9 c9 ga gc P R w (.int .i64 0) w4 := ⟨0, rfl, by omega, by rw [List.take_zero, addS_nil]; exact o11.re [1, 3, 0, 2, 4] 1, (k9.trans k10).trans k11⟩
      clear hQl hsp hpc o11 o10 o9 k11 k10 k9
      go_wp2
      go_loopw [10] (fun v wr => LvLRel b D Q a9 c9 ga gc P R w v wr) (fun v _ => D.length - (ivOf v).toNat)
      case atStart => exact hT
      case round =>
        clear hT
        obtain ⟨k, rfl, hk, oR, kR⟩ := hrel
        have c1 := (oR.up 2).cell 0
        by_cases hlt : k < D.length
        · obtain ⟨u, hu⟩ : ∃ u, D[k]? = some u := ⟨_, List.getElem?_eq_getElem hlt⟩
          obtain ⟨q, hq⟩ : ∃ q, Q[k]? = some q := ⟨_, List.getElem?_eq_getElem (by rw [HQ.out]; exact hlt)⟩
          obtain ⟨hg, hset⟩ := addS_step (Q := Q) (q := q) HASC.out.1 hu hq
          obtain ⟨g9, rfl, hcc, hf9, hl9⟩ := oR.slc_cell (by omega)
          have d2 := hcc (k * 3 + 2) _ (flat_get tagC_len _ k 2 u hg (by omega))
          obtain ⟨gg, rfl, hcg, _, _⟩ := (oR.up 1).slc_cell (by omega)
          have e0 := hcg k (.int .i64 q) (by unfold i64s; rw [List.getElem?_map, hq]; rfl)
          have hu2 := HLD.out u (List.mem_of_getElem? hu)
          have hq2 : Go.Proofs.Ytalkmeclkjnjnaa.ab q ≤ 8192 * (N : Int) := Int.le_trans (sumI_ab_mem (List.mem_of_getElem? hq)) (Int.le_trans HQA.out.1 HQA.out.2)
          have hw : IntKind.i64.wrap (u.s + q) = u.s + q := by have := HN.out; unfold Go.Proofs.Ytalkmeclkjnjnaa.ab at hq2; rw [IntKind.wrap_i64]; omega
          have oS := oR.slc_set (k * 3 + 2) (.int .i64 (u.s + q)) (by rw [flat_length tagC_len, addS_len]; omega)
          rw [← flat_set tagC_len _ k 2 u ⟨u.f, u.w, u.s + q⟩ (.int .i64 (u.s + q)) hg (by omega) rfl, setT_atP (x := ⟨u.f, u.w, u.s + q⟩) (addS_asc HASC.out.2 _) hg rfl, hset] at oS
          clear hcc hcg hg hset hu hq hu2 hq2
          go_wp2
          refine wp_region_tail 12 (by kernel_rfl) (by kernel_rfl) ?_
          simp only [List.take_succ_cons, List.take_zero, List.drop_succ_cons, List.drop_zero]
          repeat still_step
          refine wpStill_nil ?_
          go_wp2
          go_roundw
          case rel => exact ⟨k + 1, by go_num, by omega, oS.drew, ⟨kR.os, kR.tape, kR.output⟩⟩
          case measure => simp [ivOf]; omega
        · have hin : k = D.length := by omega
          subst hin
          rw [List.take_of_length_le (by rw [HQ.out]; omega)] at oR
          go_wp2
          go_ret2
          exact ⟨_, PExtT.add _ _, rfl, led_new (addS_len _ _).symm rfl (oR.re [1, 0, 2, 3] 1), kR⟩
end
end Go.Proofs.Ytalkmeclkjnjnaa
