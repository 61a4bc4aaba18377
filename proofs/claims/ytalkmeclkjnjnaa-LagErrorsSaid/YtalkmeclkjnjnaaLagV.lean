/- The program's ledger of lags: Leave. -/
import Derived.Test.YtalkmeclkjnjnaaLagB
import Derived.Deep.RegionLaw
namespace Go.Proofs.Ytalkmeclkjnjnaa
open Go.RowKit
open SP
section
variable {W w w' : World} {b N : Nat} {L : List Tg} {R : List SP}

theorem setT_none {x : Tg} : ∀ {L : List Tg}, (∀ t ∈ L, t.f ≠ x.f) → setT x L = L
  | [], _ => rfl
  | a :: L, h => by
    show (if a.f = x.f then x else a) :: setT x L = _
    rw [if_neg (h a (by simp)), setT_none fun t ht => h t (by simp [ht])]
theorem addS_step : ∀ {L : List Tg} {Q : List Int} {i : Nat} {t : Tg} {q : Int}, (L.map (·.f)).Pairwise (· < ·) → L[i]? = some t → Q[i]? = some q →
    (addS L (Q.take i))[i]? = some t ∧ setT ⟨t.f, t.w, t.s + q⟩ (addS L (Q.take i)) = addS L (Q.take (i + 1))
  | [], _, i, t, q, _, h, _ => by simp at h
  | _ :: _, [], i, t, q, _, _, h => by simp at h
  | a :: L, p :: Q, 0, t, q, hp, h, h' => by
    rw [List.map_cons, List.pairwise_cons] at hp
    simp only [List.getElem?_cons_zero, Option.some.injEq] at h h'
    subst h; subst h'
    rw [List.take_zero, addS_nil]
    refine ⟨rfl, ?_⟩
    show (if a.f = a.f then (⟨a.f, a.w, a.s + p⟩ : Tg) else a) :: setT ⟨a.f, a.w, a.s + p⟩ L = ⟨a.f, a.w, a.s + p⟩ :: addS L []
    rw [if_pos rfl, addS_nil, setT_none]
    intro u hu
    have := hp.1 u.f (List.mem_map.2 ⟨u, hu, rfl⟩)
    simp only; omega
  | a :: L, p :: Q, i + 1, t, q, hp, h, h' => by
    rw [List.map_cons, List.pairwise_cons] at hp
    rw [List.getElem?_cons_succ] at h h'
    obtain ⟨h1, h2⟩ := addS_step (L := L) (Q := Q) hp.2 h h'
    rw [List.take_succ_cons, List.take_succ_cons, addS_cons, addS_cons]
    refine ⟨by rw [List.getElem?_cons_succ]; exact h1, ?_⟩
    have hlt := hp.1 t.f (List.mem_map.2 ⟨t, List.mem_of_getElem? h, rfl⟩)
    show (if a.f = t.f then _ else _) :: setT _ _ = _
    rw [if_neg (by omega), h2]
theorem LgOk.del (h : LgOk N L) {t : Tg} (ht : t ∈ L) : LgOk N (delT t.f L) :=
  ⟨h.ok.del _, by have h1 := (delT_sums h.ok.asc' ht).1; have h2 := h.sm; have h3 := ab_nonneg t.s; omega⟩

def LvRel (b ab h : Nat) (t : Tg) (D : List Tg) (Q : List Int) (ga pa : Option Addr) (gc pc : Nat) (R : List SP) (w : World) (v41 : Value) (wr : World) : Prop :=
  ∃ (i : Nat) (m : List (Int × Tg)), v41 = .int .i64 (i : Int) ∧ i ≤ D.length ∧ RepN m (addS D (Q.take i)) ∧
    Own wr (cel b 63 [.map (some ab)] :: mpI accV ab m :: slc 2 1 ga D.length gc (i64s Q) :: slc 34 2 pa D.length pc (flat part (ptsOf D)) :: cel h 65 [.int .i64 t.w, .int .i64 t.s] :: R) ∧ Calm w wr

set_option maxHeartbeats 3200000 in
set_option maxRecDepth 100000 in
theorem lagLeave_spec (f : Int) (hN : (N : Int) ≤ 1000000000000) (o : Own w (LagR b N L :: R)) :
    Calls Try.prog 13 #[.pointer (some ⟨b, 0, none⟩), .int .i64 f] w (Ret (.tuple #[.int .i64 (nLeave L f).1.1, .int .i64 (nLeave L f).1.2]) (LagR b N (nLeave L f).2 :: R) w) := by
  obtain ⟨ab, m, hm, hok, o1⟩ := LagR.iff.1 o
  have c1 := o1.cell 0
  have hbl := o1.celLt
  cases hf : fget L f with
  | none =>
    have e : nLeave L f = ((0, 6), L) := by unfold nLeave; rw [hf]
    rw [e]; clear e
    have hlk := lookN_none (o1.up 1) hm hf
    clear hf
    go_enter Try.func13, Try.ntmps13
    go_wp2
    go_ret2
    exact ⟨rfl, o.more _, ⟨rfl, rfl, rfl⟩⟩
  | some t =>
    have e : nLeave L f = ((t.s, 0), addS (delT f L) (lagSplit t.s (wts (delT f L)))) := by unfold nLeave; rw [hf]
    have hok' := nLeave_ok hok f
    rw [e] at hok' ⊢
    clear e
    obtain ⟨ht, rfl⟩ := fget_some hf
    have hlk := lookN_some (o1.up 1) hm hf
    have hbn : b ≠ w.heap.size := by omega
    have hokD := hok.del ht
    have hrepD := hm.del t.f
    have hts := hok.lag ht
    have o2 := o1.alloc (.cells #[.int .i64 t.w, .int .i64 t.s] 65)
    have hptD := ptsOf_ok hokD.ok
    have hpw := pws_pts (delT t.f L)
    have hlagD : ∀ u ∈ delT t.f L, -(8192 * (N : Int)) ≤ u.s ∧ u.s ≤ 8192 * (N : Int) := fun u hu => hokD.lag hu
    generalize delT t.f L = D at *
    have HLD := Lib.hid hlagD
    clear hlagD
    go_enter Try.func13, Try.ntmps13
    go_wp2_with (first | fail | (at_delete; refine wpList_delete_mpI rfl _ _ rfl Try.underlying61 Try.underlying3 (o2.up 2) t.f rfl rfl ?c2))
    case c2 =>
    intro w1 o3 k3
    have o4 : Own w1 (LagR b N D :: blk w.heap.size (.cells #[.int .i64 t.w, .int .i64 t.s] 65) :: R) := LagR.iff.2 ⟨ab, _, hrepD, hokD, o3.re [2, 0, 1]⟩
    go_wp2_with fail
    refine (lagParts_spec o4).mono ?_
    rintro e1 w2 ⟨pa, pc, rfl, o5, k5⟩
    have cA := (o5.up 2).cell (T := 65) (vs := [.int .i64 t.w, .int .i64 t.s]) 1
    have hsp := shSplit_spec (w := w2) (c := pc) t.s (by unfold Go.Proofs.Ytalkmeclkjnjnaa.ab; omega) (partsAt_slc pa D.length pc (ptsOf D) (ptsOf_len D).symm) hptD (ptsOf_len D).symm o5
    go_wp2_with fail
    refine hsp.mono ?_
    rintro e2 w3 ⟨ga, gc, rfl, o6, k6⟩
    rw [pws_pts, ptsOf_len] at o6
    rw [ptsOf_len]
    obtain ⟨er, her⟩ : ∃ er : Int, (if ptsOf D = [] then (5 : Int) else 0) = er := ⟨_, rfl⟩
    rw [her]
    clear her
    obtain ⟨ab3, m3, hm3, hok3, o7⟩ := LagR.iff.1 (o6.up 2)
    have hQl : (lagSplit t.s (wts D)).length = D.length := by rw [lagSplit_len]; unfold wts; rw [List.length_map]
    have hQa := lagSplit_abs t.s (wts_pos hok3.ok)
    have hts2 : Go.Proofs.Ytalkmeclkjnjnaa.ab t.s ≤ 8192 * (N : Int) := by unfold Go.Proofs.Ytalkmeclkjnjnaa.ab; omega
    generalize lagSplit t.s (wts D) = Q at *
    have hasc := hok3.ok.asc'
    have hD32 := hok3.ok.len
    have hAD := HLD.out
    have hT : LvRel b ab3 w.heap.size t D Q ga pa gc pc R w (.int .i64 0) w3 := ⟨0, m3, rfl, by omega, by rw [List.take_zero, addS_nil]; exact hm3, o7.re [0, 1, 2, 3, 4], ((⟨k3.os, k3.tape, k3.output⟩ : Calm w w1).trans k5).trans k6⟩
    have HQ := Lib.hid hQl
    have HQA := Lib.hid (And.intro hQa hts2)
    have HO' := Lib.hid hok'
    have HASC := Lib.hid hasc
    have HOKD := Lib.hid hokD
    have HN := Lib.hid hN
    have HLD2 := Lib.hid hAD
    clear hQl hQa hts2 hok' hasc hokD hN hAD o7 o6 o5 o4 o3 o2 o1 o hsp cA k6 k5 k3 hptD hpw hrepD hm hok hm3 hok3 ht hlk hts hbl hbn c1
    go_wp2
    go_loopw [41] (fun v wr => LvRel b ab3 w.heap.size t D Q ga pa gc pc R w v wr) (fun v _ => D.length - (ivOf v).toNat)
    case atStart => exact hT
    case round =>
      clear hT
      obtain ⟨i, m, rfl, hi, hm, oR, kR⟩ := hrel
      by_cases hlt : i < D.length
      · obtain ⟨u, hu⟩ : ∃ u, D[i]? = some u := ⟨_, List.getElem?_eq_getElem hlt⟩
        obtain ⟨q, hq⟩ : ∃ q, Q[i]? = some q := ⟨_, List.getElem?_eq_getElem (by rw [HQ.out]; exact hlt)⟩
        obtain ⟨hg, hset⟩ := addS_step (Q := Q) (q := q) HASC.out hu hq
        have hfg := fget_memN hm.ok (List.mem_of_getElem? hg)
        have hlk := lookN_one (oR.drew.up 1) hm hfg
        obtain ⟨g, rfl, hc, _, _⟩ := (oR.up 2).slc_cell (by omega)
        have d0 := hc i (.int .i64 q) (by unfold i64s; rw [List.getElem?_map, hq]; rfl)
        obtain ⟨gp, rfl, d1, d2⟩ := part_cells (oR.up 3) (i := i) (y := (u.f, u.w)) (by unfold ptsOf; rw [List.getElem?_map, hu]; rfl) (by omega)
        have c1 := oR.cell 0
        dsimp only at d1 d2
        have hu2 := HLD2.out u (List.mem_of_getElem? hu)
        have hq2 : Go.Proofs.Ytalkmeclkjnjnaa.ab q ≤ 8192 * (N : Int) := Int.le_trans (sumI_ab_mem (List.mem_of_getElem? hq)) (Int.le_trans HQA.out.1 HQA.out.2)
        have hur := HOKD.out.ok.rng u (List.mem_of_getElem? hu)
        have hw : IntKind.i64.wrap (u.s + q) = u.s + q := by have := HN.out; unfold Go.Proofs.Ytalkmeclkjnjnaa.ab at hq2; rw [IntKind.wrap_i64]; omega
        have hrep : RepN (mput m u.f ⟨u.f, u.w, u.s + q⟩) (addS D (Q.take (i + 1))) := by
          rw [← hset]
          exact hm.set (x := ⟨u.f, u.w, u.s + q⟩) (by show fget _ u.f ≠ none; rw [hfg]; simp) (by refine ⟨?_, ?_, ?_, ?_⟩ <;> (simp only; omega))
        have HR := Lib.hid hrep
        have oA := oR.alloc (.cells #[.int .i64 u.w, .int .i64 (u.s + q)] 65)
        clear hc hg hset hu hq hu2 hq2 hur hrep
        have lbl := oR.celLt
        have hbw : b ≠ wr.heap.size := by omega
        have hgp : gp < wr.heap.size := World.block_lt_of_cell? _ _ d1
        have hgw : gp ≠ wr.heap.size := by omega
        have hlk2 := lookN_one ((oR.alloc (.cells #[.int .i64 0, .int .i64 0] 65)).drew.up 2) hm hfg
        clear hfg hm
        go_wp2
        go_region_law (fail)
        all_goals go_wp2
        all_goals refine wp_region_tail 10 (by kernel_rfl) (by kernel_rfl) ?_
        all_goals simp only [List.take_succ_cons, List.take_zero, List.drop_succ_cons, List.drop_zero]
        all_goals repeat still_step
        all_goals refine wpStill_nil ?_
        all_goals go_wp2_with (at_mapUpdate; refine wpList_mapUpdate_mpI (f := accV) rfl _ _ _ rfl Try.underlying61 Try.underlying3 ((oA.up 2).drewN 2) u.f ⟨u.f, u.w, u.s + q⟩ rfl rfl rfl ?_)
        all_goals
          intro w4 o4 k4
          go_wp2
          go_roundw
          case rel => exact ⟨i + 1, _, by go_num, by omega, HR.out, o4.re [1, 2, 0, 3, 4, 5] 1, kR.trans ⟨k4.os, k4.tape, k4.output⟩⟩
          case measure => simp [ivOf]; omega
      · have hin : i = D.length := by omega
        subst hin
        rw [List.take_of_length_le (by rw [HQ.out]; omega)] at hm
        have c0 := (oR.up 4).cell 0
        have c1 := (oR.up 4).cell 1
        go_wp2
        go_ret2
        exact ⟨rfl, LagR.iff.2 ⟨_, _, hm, HO'.out, oR.re [2, 3, 4, 0, 1] 3⟩, kR⟩
end
end Go.Proofs.Ytalkmeclkjnjnaa
