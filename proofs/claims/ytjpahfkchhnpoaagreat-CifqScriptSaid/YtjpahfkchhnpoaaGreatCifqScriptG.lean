/- Texts that the law rests on, put together by a program. -/
import Derived.Test.YtjpahfkchhnpoaaGreatCifqScriptF
/- The reference of chapter 13: Charge. -/
namespace Go.Proofs.YtjpahfkchhnpoaaGreat
open Go.RowKit
open SP
section
variable {P : SP} {W w w' : World} {R : List SP} {b : Nat} {at_ now aw : Int} {L O : List Tg}
def ChT (b : Nat) (at_ : Int) (L O : List Tg) (now aw : Int) (P : SP) (R : List SP) (w : World) (e : Ending) (w' : World) : Prop :=
  ∃ P', PExtT P P' ∧ Ret (.int .i64 0) (RefT P' b at_ L O now aw :: P' :: R) w e w'
def chB (L : List Tg) (now : Int) : Int := min (lst L).s now
/-- The lists, the time and the sum behind a charge. -/
def chL (at_ now : Int) (L : List Tg) : List Tg := if chB L now < at_ then L else L.map (lowO (chB L now))
def chO (at_ now : Int) (L O : List Tg) : List Tg := if chB L now < at_ then O else O.map (lowO (chB L now))
def chN (at_ now : Int) (L : List Tg) : Int := if chB L now < at_ then now else now - chB L now
def chA (at_ now aw : Int) (L : List Tg) : Int := if chB L now < at_ then aw else aw + chB L now
def ChMid (b : Nat) (at_ : Int) (L O : List Tg) (now aw : Int) (P : SP) (R : List SP) (w wc : World) : Prop :=
  ∃ P', PExtT P P' ∧ Own wc (RefT P' b at_ L O now aw :: P' :: R) ∧ Calm w wc
theorem ch_mid {w8 : World} {Q : SP} {a10 a11 a0 a2 : Option Addr} {n0 n2 n10 n11 c0 c2 c10 c11 : Nat} {L2 O2 : List Tg} {v3 nv : Int} (hn : n10 = L2.length) (hn2 : n11 = O2.length)
    (o : Own w8 (slc 94 3 a11 n11 c11 (flat tagC O2) :: P :: slc 94 3 a10 n10 c10 (flat tagC L2) :: Q :: cel b 46 [.int .i64 at_, .slice a0 n0 c0, .slice a2 n2 c2, .int .i64 v3, .int .i64 aw] :: R)) (k : Calm w w8) :
    ChMid b at_ L2 O2 nv aw P R w (((w8.setCell ⟨b, 1, none⟩ (.slice a10 n10 c10)).setCell ⟨b, 2, none⟩ (.slice a11 n11 c11)).setCell ⟨b, 3, none⟩ (.int .i64 nv)) := by
  subst hn
  subst hn2
  have h1 := slOk_slc (o.up 2)
  have h2 := slOk_slc o
  have n1 := (o.up 2).slc_len.2.1
  have n2' := o.slc_len.2.1
  have oA : Own _ (cel b 46 [.int .i64 at_, .slice a10 L2.length c10, .slice a11 O2.length c11, .int .i64 nv, .int .i64 aw] :: slc 94 3 a11 O2.length c11 (flat tagC O2) :: P :: slc 94 3 a10 L2.length c10 (flat tagC L2) :: Q :: R) :=
    ((((o.up 4).setCell 1 (.slice a10 L2.length c10)).setCell 2 (.slice a11 O2.length c11)).setCell 3 (.int .i64 nv))
  have oB : Own _ (st [slc 94 3 a11 O2.length c11 (flat tagC O2), P] :: _) := Own.st.2 (oA.re [1, 2, 0, 3, 4])
  have oC : Own _ (st [slc 94 3 a10 L2.length c10 (flat tagC L2), st [slc 94 3 a11 O2.length c11 (flat tagC O2), P]] :: _) := Own.st.2 (oB.re [2, 0, 1, 3])
  exact ⟨_, PExtT.trans (PExtT.add _ _) (PExtT.add _ _), RefT.iff.2 ⟨a10, c10, a11, c11, ⟨⟨(tagsAt_slc _ _ _ _ rfl).new, h1⟩, n1, ⟨PExtT.add _ _ _ _ (tagsAt_slc _ _ _ _ rfl).new, h2⟩, n2'⟩, oC.re [2, 1, 0] 1⟩, ⟨k.os, k.tape, k.output⟩⟩
set_option maxHeartbeats 6400000 in
set_option maxRecDepth 100000 in
theorem chargeT_ok (f len nx : Int) {t : Tg} (hok : LOk L) (hok2 : LOk (setT ⟨t.f, t.w, nx⟩ L)) (hf : fget L f = some t) (hl : 1 ≤ len ∧ len ≤ 4096) (hfi : finF t.s len t.w = (nx, 0)) (hn0 : 0 ≤ now ∧ now ≤ 1099511627776) (haw : 0 ≤ aw ∧ aw ≤ 1152921504606846976)
    (hO : O.length ≤ 1000) (hOr : ∀ t ∈ O, 0 ≤ t.s ∧ t.s ≤ 1099511627776) (o : Own w (RefT P b at_ L O now aw :: P :: R)) :
    Calls Tryz.prog 73 #[.pointer (some ⟨b, 0, none⟩), .int .i64 f, .int .i64 len] w
      (ChT b at_ (chL at_ (max now t.s) (setT ⟨t.f, t.w, nx⟩ L)) (chO at_ (max now t.s) (setT ⟨t.f, t.w, nx⟩ L) O) (chN at_ (max now t.s) (setT ⟨t.f, t.w, nx⟩ L)) (chA at_ (max now t.s) aw (setT ⟨t.f, t.w, nx⟩ L)) P R w) := by
  have hL := hok.len
  have hat := index_spec f (by omega) o
  obtain ⟨i, hi, hai⟩ := idxT_some 0 L hf
  rw [hai, Nat.zero_add] at hat
  have hil := (List.getElem?_eq_some_iff.1 hi).1
  have hrng := hok.rng t (List.mem_of_getElem? hi)
  have hset := setT_at (x := ⟨t.f, t.w, nx⟩) hok hi rfl
  have hfs := flat_set tagC_len L i 2 t ⟨t.f, t.w, nx⟩ (.int .i64 nx) hi (by omega) rfl
  have hfg := flat_get tagC_len L i 2 t hi (by omega)
  have HS := Lib.hid hset
  have HF := Lib.hid hfs
  have HFG := Lib.hid hfg
  have HI := Lib.hid hi
  obtain ⟨a, c, a2, c2, ⟨⟨hP, hs⟩, hc, hP2⟩, o1⟩ := RefT.iff.1 o
  obtain ⟨g, so, hag, d0, d1, d2⟩ := hP _ _ (o1.up 1) i t hi
  subst hag
  obtain ⟨t0, t1, t2⟩ := t
  dsimp only at d0 d1 d2 hrng hfi hok2 ⊢
  have c1 := o1.cell 1
  have c3 := o1.cell 3
  have cl := o1.celLt
  have cf := o1.frozen
  have hfin := fun w => finishT_spec t2 len t1 hl ⟨hrng.2.2.1, hrng.2.2.2.1⟩ ⟨hrng.2.2.2.2.1, hrng.2.2.2.2.2⟩ w
  rw [hfi] at hfin
  obtain ⟨l1, l2⟩ := hl
  obtain ⟨L1, hL1⟩ : ∃ L1, L1 = setT ⟨t0, t1, nx⟩ L := ⟨_, rfl⟩
  rw [← hL1] at hok2 ⊢
  have HL1 := Lib.hid hL1
  obtain ⟨nw, hnw⟩ : ∃ nw, nw = max now t2 := ⟨_, rfl⟩
  have hnwr : 0 ≤ nw ∧ nw ≤ 1099511627776 := by omega
  rw [← hnw]
  have HNW := Lib.hid hnw
  have hmx : max now t2 = nw := hnw.symm
  clear hset hfs hfg hfi hrng hai hi hf hL1 hnw
  go_enter Tryz.func73, Tryz.ntmps73
  go_wp2_with fail
  refine hat.mono ?_
  rintro e1 w1 ⟨rfl, rfl⟩
  go_wp2
  go_quiet ((go_at_call 102; exact Calls.quiet_of_same (quiet_form (hfin _))))
  go_wp2
  refine wp_region_tail 14 (by kernel_rfl) (by kernel_rfl) ?_
  simp only [List.take_succ_cons, List.take_zero, List.drop_succ_cons, List.drop_zero]
  repeat still_step
  refine wpStill_nil ?_
  have oS := (o1.drewN (nq + 1)).setCell 3 (.int .i64 nw)
  have oY : Own _ (SP.blk _ (.cells #[] 94 (0, 0)) :: cel b 46 [.int .i64 at_, .slice (some ⟨g, so, none⟩) L.length c, .slice a2 O.length c2, .int .i64 nw, .int .i64 aw] :: P :: R) := oS.alloc (.cells #[] 94)
  have hsz : ((w.drewN (nq + 1)).setCell ⟨b, 3, none⟩ (.int .i64 nw)).heap.size = w.heap.size := by simp
  rw [hsz] at oY
  have oZ := slc_zero (e := 94) (size := 3) oY
  have hsrc := tags_src (c := c) hP rfl (oZ.up 2)
  clear hsz oY
  go_wp2_with (at_builtin; refine wpList_append_src rfl _ _ rfl Tryz.tagT rfl oZ rfl hsrc (by unfold maxLen; omega) (by omega) ?k1)
  case k1 =>
  intro a5 c5 w5 o5 k5
  have q1 := (o5.up 1).cell 1
  have ql := (o5.up 1).celLt
  have qf := (o5.up 1).frozen
  have oS2 := ((o5.up 1).setCell 1 (.slice a5 L.length c5))
  have s1 := oS2.cell 1
  clear hsrc oZ oS
  rcases Own.slc.1 (oS2.up 1) with ⟨_, hz, _⟩ | ⟨g5, sp, rfl, hlc5, hcm, _, _, _⟩
  · omega
  · obtain ⟨g', hg', hc', hf', hl'⟩ := (oS2.up 1).slc_cell (by omega)
    cases hg'
    have e1 := hc' (i * 3 + 2) _ HFG.out
    have ef := hf'
    have o7 := (oS2.up 1).slc_set (i * 3 + 2) (.int .i64 nx) (by rw [flat_length tagC_len]; omega)
    rw [← HF.out, HS.out, ← HL1.out] at o7
    have hlen : L.length = L1.length := by rw [HL1.out, ← HS.out, List.length_set]
    have HLEN := Lib.hid hlen
    have hne : L1 ≠ [] := fun h => by
      have h2 := hlen
      rw [h] at h2
      have h3 : L.length = 0 := h2
      omega
    have hlt1 := leastN_lt hne
    have hg1 : L1[leastN L1]? = some (lst L1) := by
      unfold lst
      rw [List.getD_eq_getElem?_getD, List.getElem?_eq_getElem hlt1]; rfl
    have hls := leastT_spec (c := c5) (tagsAt_slc (some ⟨g5, 0, none⟩) L.length c5 L1 hlen) hok2 hlen o7.drew
    rw [if_neg hne] at hls
    obtain ⟨kk, hkk⟩ : ∃ kk, kk = leastN L1 := ⟨_, rfl⟩
    rw [← hkk] at hg1 hls hlt1
    have hsg := flat_get tagC_len L1 kk 2 (lst L1) hg1 (by omega)
    have HSG := Lib.hid hsg
    obtain ⟨bb, hbb⟩ : ∃ bb, bb = min (lst L1).s nw := ⟨_, rfl⟩
    have HBB := Lib.hid hbb
    have hmn : min (lst L1).s nw = bb := hbb.symm
    have m1 := (o7.up 1).cell 1
    have m3 := (o7.up 1).cell 3
    have hkI : (kk : Int) < (L.length : Int) := by omega
    have hk2 : kk < L.length := by omega
    have hls9 : 0 ≤ (lst L1).s ∧ (lst L1).s ≤ 1099511627776 := (hok2.rng _ (List.mem_of_getElem? hg1)).2.2.2.2
    clear hlen hne hg1 hkk hsg hbb
    go_wp2
    go_upto_region 12 with fail
    go_cut [10] (fun v10 wc => v10 = .int .i64 bb ∧ Own wc (slc 94 3 (some ⟨g5, 0, none⟩) L.length c5 (flat tagC L1) :: cel b 46 [.int .i64 at_, .slice (some ⟨g5, 0, none⟩) L.length c5, .slice a2 O.length c2, .int .i64 nw, .int .i64 aw] :: P :: R) ∧ Calm w wc)
    case first =>
      obtain ⟨_, hh7, hc7, _, _⟩ := o7.slc_cell (by omega)
      cases hh7
      have p7 := hc7 (kk * 3 + 2) (.int .i64 (lst L1).s) HSG.out
      clear hc7
      go_region_held3 (fun w' => w'.cell? ⟨b, 1, none⟩ = some (.slice (some ⟨g5, 0, none⟩) L.length c5) ∧ w'.cell? ⟨b, 3, none⟩ = some (.int .i64 nw) ∧ w'.cell? ⟨g5, kk * 3 + 2, none⟩ = some (.int .i64 (lst L1).s)) (go_keep) (first
        | (go_at_call 103; (with_reducible refine hls.mono ?_); rintro e8 w8 ⟨rfl, o8, k8⟩; have p1 := (o8.up 1).cell 1; have p3 := (o8.up 1).cell 3; obtain ⟨_, hh, hc8, _, _⟩ := o8.slc_cell (by omega); cases hh; have p5 := hc8 (kk * 3 + 2) (.int .i64 (lst L1).s) HSG.out))
      all_goals go_wp2
      all_goals go_meet
      all_goals exact ⟨by rw [HBB.out], o8, Calm.trans ⟨k5.os, k5.tape, k5.output⟩ ⟨k8.os, k8.tape, k8.output⟩⟩
    case rest =>
      obtain ⟨rfl, o9, k9⟩ := hcut
      clear o7 m1 m3 e1 ef hls s1 oS2 q1 ql qf
      have hB : chB L1 nw = bb := by unfold chB; rw [HBB.out]
      have m0 := o9.up 1 |>.cell 0
      have m1 := (o9.up 1).cell 1
      by_cases hlt : bb < at_
      · have eL : chL at_ nw L1 = L1 := if_pos (by rw [hB]; exact hlt)
        have eO : chO at_ nw L1 O = O := if_pos (by rw [hB]; exact hlt)
        have eN : chN at_ nw L1 = nw := if_pos (by rw [hB]; exact hlt)
        have eA : chA at_ nw aw L1 = aw := if_pos (by rw [hB]; exact hlt)
        have oE := refT_newL HLEN.out hP2 o9
        have hge : ¬ at_ ≤ bb := by omega
        have EL := Lib.hid eL
        have EO := Lib.hid eO
        have EN := Lib.hid eN
        have EA := Lib.hid eA
        clear eL eO eN eA hB hlt
        go_wp2
        go_ret
        rw [EL.out, EO.out, EN.out, EA.out]
        exact ⟨_, PExtT.add _ _, rfl, oE, k9⟩
      · have eL : chL at_ nw L1 = L1.map (lowO bb) := by unfold chL; rw [hB]; exact if_neg hlt
        have eO : chO at_ nw L1 O = O.map (lowO bb) := by unfold chO; rw [hB]; exact if_neg hlt
        have eN : chN at_ nw L1 = nw - bb := by unfold chN; rw [hB]; exact if_neg hlt
        have eA : chA at_ nw aw L1 = aw + bb := by unfold chA; rw [hB]; exact if_neg hlt
        have hge : at_ ≤ bb := by omega
        have hbr : 0 ≤ bb ∧ bb ≤ 1099511627776 := by rw [HBB.out]; omega
        have hw1 : IntKind.i64.wrap (nw - bb) = nw - bb := by rw [IntKind.wrap_i64]; omega
        have hw2 : IntKind.i64.wrap (aw + bb) = aw + bb := by rw [IntKind.wrap_i64]; omega
        have hr1 : ∀ t ∈ L1, 0 ≤ t.s ∧ t.s ≤ 1099511627776 := fun t ht => by have := hok2.rng t ht; omega
        have EL := Lib.hid eL
        have EO := Lib.hid eO
        have EN := Lib.hid eN
        have EA := Lib.hid eA
        have l1 := fun w R (o : Own w (slc 94 3 (some ⟨g5, 0, none⟩) L.length c5 (flat tagC L1) :: R)) => lower_spec (c := c5) bb hbr (tagsAt_slc (some ⟨g5, 0, none⟩) L.length c5 L1 HLEN.out) HLEN.out (by omega) hr1 o
        have l2 := fun w R (o : Own w (P :: R)) => lower_spec (c := c2) bb hbr hP2.1.1 rfl hO hOr o
        have c2' := (o9.up 1).cell 2
        have c3' := (o9.up 1).cell 3
        clear eL eO eN eA hB hlt
        go_wp2
        go_upto_region 14 with fail
        go_cut [101] (fun _ wc => ChMid b at_ (L1.map (lowO bb)) (O.map (lowO bb)) (nw - bb) aw P R w wc)
        case first =>
          go_region_law (first
            | (go_simp; go_at_call 104; (with_reducible refine (l1 _ _ o9.drew).mono ?_); rintro e10 w10 ⟨a10, c10, rfl, o10, k10⟩; have u1 := (o10.up 2).cell 1; have u2 := (o10.up 2).cell 2; have u3 := (o10.up 2).cell 3; have oP := o10.up 3)
            | (go_simp; go_at_call 104; (with_reducible refine (l2 _ _ oP).mono ?_); rintro e11 w11 ⟨a11, c11, rfl, o11, k11⟩; have v1 := (o11.up 4).cell 1; have v2 := (o11.up 4).cell 2; have v3 := (o11.up 4).cell 3; have vf := (o11.up 4).frozen; have vl := (o11.up 4).celLt))
          all_goals go_wp2
          all_goals go_meet
          all_goals exact ch_mid (by rw [List.length_map]; exact HLEN.out) (by rw [List.length_map]) o11 (k9.trans (Calm.trans ⟨k10.os, k10.tape, k10.output⟩ k11))
        case rest =>
          obtain ⟨P', hE, oX, kX⟩ := hcut
          obtain ⟨a12, c12, a13, c13, hp12, o12⟩ := RefT.iff.1 oX
          have n4 := o12.cell 4
          have nf := o12.frozen
          have nl := o12.celLt
          have oF : Own _ (RefT P' b at_ (L1.map (lowO bb)) (O.map (lowO bb)) (nw - bb) (aw + bb) :: P' :: R) := RefT.iff.2 ⟨a12, c12, a13, c13, hp12, o12.setCell 4 (.int .i64 (aw + bb))⟩
          go_wp2
          go_ret
          rw [EL.out, EO.out, EN.out, EA.out]
          exact ⟨P', hE, rfl, oF, ⟨kX.os, kX.tape, kX.output⟩⟩
end
end Go.Proofs.YtjpahfkchhnpoaaGreat
